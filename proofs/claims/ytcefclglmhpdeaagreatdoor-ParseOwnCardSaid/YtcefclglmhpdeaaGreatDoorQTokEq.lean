/-
  Two tokens held against each other. The reference's Same at two rows that read as one list of tokens.
-/
import Derived.Test.YtcefclglmhpdeaaGreatDoorQMem
import Derived.Test.YtcefclglmhpdeaaGreatDoorQTok
import Derived.Laws.StructEq
import Derived.BigQuiet
namespace Go.Proofs.YtcefclglmhpdeaaGreatDoor
set_option linter.unusedVariables false
set_option linter.unusedSimpArgs false
open Go.RowKit
theorem run_equalIn_tok (n : Nat) (a c d a' c' d' : Int) (b b' : ByteArray) (w : World) :
    (Op.equalIn (n + 2) 65 (.agg #[.int .i64 a, .string b, .int .u64 c, .int .i64 d]) (.agg #[.int .i64 a', .string b', .int .u64 c', .int .i64 d'])).run Tryz.prog w = .ok (a == a' && (b.toList == b'.toList) && c == c' && d == d') w := by
  have hag1 : ∀ w, (isAgg 41).run Tryz.prog w = .ok false w := fun w => by kernel_rfl
  have hag2 : ∀ w, (isAgg 3).run Tryz.prog w = .ok false w := fun w => by kernel_rfl
  have hag3 : ∀ w, (isAgg 9).run Tryz.prog w = .ok false w := fun w => by kernel_rfl
  have hag4 : ∀ w, (isAgg 63).run Tryz.prog w = .ok false w := fun w => by kernel_rfl
  have hsz4 : ∀ w, (sizeOf 63).run Tryz.prog w = .ok 1 w := fun w => by kernel_rfl
  have he4 := fun (a b : Int) (w : World) => run_equalIn_int (P := Tryz.prog) w n 63 .i64 .i64 a b Tryz.underlying63
  have hsz1 : ∀ w, (sizeOf 41).run Tryz.prog w = .ok 1 w := fun w => by kernel_rfl
  have hsz2 : ∀ w, (sizeOf 3).run Tryz.prog w = .ok 1 w := fun w => by kernel_rfl
  have hsz3 : ∀ w, (sizeOf 9).run Tryz.prog w = .ok 1 w := fun w => by kernel_rfl
  have he1 := fun (a b : Int) (w : World) => run_equalIn_int (P := Tryz.prog) w n 41 .u64 .u64 a b Tryz.underlying41
  have he2 := fun (a b : Int) (w : World) => run_equalIn_int (P := Tryz.prog) w n 3 .i64 .i64 a b Tryz.underlying3
  have he3 := fun (a b : ByteArray) (w : World) => run_equalIn_string (P := Tryz.prog) w n 9 a b Tryz.underlying9
  unfold Op.equalIn
  simp [run_underlying Tryz.underlying65, part, hag1, hag2, hag3, hag4, hsz1, hsz2, hsz3, hsz4, he1, he2, he3, he4]
  by_cases h1 : a = a' <;> by_cases h2 : b.toList = b'.toList <;> by_cases h3 : c = c' <;> by_cases h4 : d = d' <;> simp [h1, h2, h3, h4]
theorem run_eql_tok (a c d a' c' d' : Int) (b b' : ByteArray) (w : World) :
    (binOp .eql 65 (.agg #[.int .i64 a, .string b, .int .u64 c, .int .i64 d]) (.agg #[.int .i64 a', .string b', .int .u64 c', .int .i64 d'])).run Tryz.prog w = .ok (.bool (a == a' && (b.toList == b'.toList) && c == c' && d == d')) w := by
  rw [run_eql_struct, run_equalIn_tok 9998]
  rfl
theorem run_equalIn_tok' (a c d a' c' d' : Int) (b b' : ByteArray) (w : World) :
    (Op.equalIn 10000 65 (.agg #[.int .i64 a, .string b, .int .u64 c, .int .i64 d]) (.agg #[.int .i64 a', .string b', .int .u64 c', .int .i64 d'])).run Tryz.prog w = .ok (a == a' && (b.toList == b'.toList) && c == c' && d == d') w := run_equalIn_tok 9998 a c d a' c' d' b b' w
theorem guard_tok (op : BinOp) (x y : Operand) (xs ys : Array Value) (w : World) : (eqGuard op 65 x y (.agg xs) (.agg ys)).run Tryz.prog w = .ok () w :=
  run_eqGuard_agg w op _ x y xs ys (by kernel_rfl)
end Go.Proofs.YtcefclglmhpdeaaGreatDoor
namespace Go.Proofs.YtcefclglmhpdeaaGreatDoor
set_option linter.unusedVariables false
set_option linter.unusedSimpArgs false
open Go.RowKit
theorem tok_neq_same (a c d : Int) (b : ByteArray) (w : World) :
    (binOp .neq 65 (.agg #[.int .i64 a, .string b, .int .u64 c, .int .i64 d]) (.agg #[.int .i64 a, .string b, .int .u64 c, .int .i64 d])).run Tryz.prog w = .ok (.bool false) w := by
  rw [run_neq_struct, run_equalIn_tok']
  simp
def SameRel (n : Nat) (iv : Value) : Prop := ∃ i : Nat, i ≤ n ∧ iv = .int .i64 i
set_option maxRecDepth 100000 in
set_option maxHeartbeats 2000000 in
theorem same_any (A A' : Option Addr) (c c' : Nat) (l : List Tok) (w : World) (hl : l.length ≤ 1000000) (h : RdT w w.heap.size A l) (h' : RdT w w.heap.size A' l) :
    Calls Tryz.prog 19 #[.slice A l.length c, .slice A' l.length c'] w fun e w' => e = .returned (.bool true) ∧ Below w.heap.size w w' := by
  obtain ⟨n, hn⟩ : ∃ n, n = l.length := ⟨_, rfl⟩
  rw [← hn]
  have HN := Lib.hid hn
  have H := Lib.hid h
  have H' := Lib.hid h'
  rw [← hn] at hl
  clear h h' hn
  go_enter Tryz.func19, Tryz.ntmps19
  go_wp2
  go_loopw [13] (fun iv wr => SameRel n iv ∧ Below w.heap.size w wr) (fun iv _ => n - (intOf iv).toNat)
  case atStart => exact ⟨⟨0, by omega, rfl⟩, Below.refl _ _⟩
  case round =>
    obtain ⟨⟨i, hi, rfl⟩, hb⟩ := hrel
    by_cases hlt : i < n
    · have ht : l[i]? = some (l[i]'(by rw [← HN.out]; exact hlt)) := List.getElem?_eq_getElem _
      obtain ⟨t, htt⟩ : ∃ t, t = l[i]'(by rw [← HN.out]; exact hlt) := ⟨_, rfl⟩
      rw [← htt] at ht
      obtain ⟨b, o, rfl, hbl, c0, c1, c2, c3⟩ := (H.out.below hb).tok ht
      obtain ⟨b', o', rfl, hbl', c0', c1', c2', c3'⟩ := (H'.out.below hb).tok ht
      have hq := tok_neq_same (t.kind : Int) (t.num : Int) (t.pos : Int) t.text
      have i0 : (0 : Int) ≤ (i : Int) := by omega
      have i1 : (i : Int) < (n : Int) := by omega
      have HB := Lib.hid hb
      clear hb ht htt hbl hbl'
      go_wp2_with fail
      go_quiet (fail)
      go_wp2
      exact ⟨⟨⟨i + 1, by omega, rfl⟩, below_drewN HB.out _⟩, by simp [intOf]; omega⟩
    · obtain rfl : i = n := by omega
      have HB := Lib.hid hb
      clear hb
      go_wp2
      go_ret
      exact ⟨rfl, HB.out⟩
end Go.Proofs.YtcefclglmhpdeaaGreatDoor
