/-
  Two tokens held against each other.
-/
import Derived.Test.YtbiobefcagboeaaDoorTok
import Derived.Laws.StructEq
namespace Go.Proofs.YtbiobefcagboeaaDoor
set_option linter.unusedVariables false
set_option linter.unusedSimpArgs false
open Go.RowKit
theorem run_equalIn_tok (n : Nat) (a c d a' c' d' : Int) (b b' : ByteArray) (w : World) :
    (Op.equalIn (n + 2) 31 (.agg #[.int .i64 a, .string b, .int .u64 c, .int .i64 d]) (.agg #[.int .i64 a', .string b', .int .u64 c', .int .i64 d'])).run Tryd.prog w = .ok (a == a' && (b.toList == b'.toList) && c == c' && d == d') w := by
  have hag1 : ∀ w, (isAgg 29).run Tryd.prog w = .ok false w := fun w => by kernel_rfl
  have hag2 : ∀ w, (isAgg 3).run Tryd.prog w = .ok false w := fun w => by kernel_rfl
  have hag3 : ∀ w, (isAgg 9).run Tryd.prog w = .ok false w := fun w => by kernel_rfl
  have hag4 : ∀ w, (isAgg 28).run Tryd.prog w = .ok false w := fun w => by kernel_rfl
  have hsz4 : ∀ w, (sizeOf 28).run Tryd.prog w = .ok 1 w := fun w => by kernel_rfl
  have he4 := fun (a b : Int) (w : World) => run_equalIn_int (P := Tryd.prog) w n 28 .i64 .i64 a b Tryd.underlying28
  have hsz1 : ∀ w, (sizeOf 29).run Tryd.prog w = .ok 1 w := fun w => by kernel_rfl
  have hsz2 : ∀ w, (sizeOf 3).run Tryd.prog w = .ok 1 w := fun w => by kernel_rfl
  have hsz3 : ∀ w, (sizeOf 9).run Tryd.prog w = .ok 1 w := fun w => by kernel_rfl
  have he1 := fun (a b : Int) (w : World) => run_equalIn_int (P := Tryd.prog) w n 29 .u64 .u64 a b Tryd.underlying29
  have he2 := fun (a b : Int) (w : World) => run_equalIn_int (P := Tryd.prog) w n 3 .i64 .i64 a b Tryd.underlying3
  have he3 := fun (a b : ByteArray) (w : World) => run_equalIn_string (P := Tryd.prog) w n 9 a b Tryd.underlying9
  unfold Op.equalIn
  simp [run_underlying Tryd.underlying31, part, hag1, hag2, hag3, hag4, hsz1, hsz2, hsz3, hsz4, he1, he2, he3, he4]
  by_cases h1 : a = a' <;> by_cases h2 : b.toList = b'.toList <;> by_cases h3 : c = c' <;> by_cases h4 : d = d' <;> simp [h1, h2, h3, h4]
theorem run_eql_tok (a c d a' c' d' : Int) (b b' : ByteArray) (w : World) :
    (binOp .eql 31 (.agg #[.int .i64 a, .string b, .int .u64 c, .int .i64 d]) (.agg #[.int .i64 a', .string b', .int .u64 c', .int .i64 d'])).run Tryd.prog w = .ok (.bool (a == a' && (b.toList == b'.toList) && c == c' && d == d')) w := by
  rw [run_eql_struct, run_equalIn_tok 9998]
  rfl
theorem run_equalIn_tok' (a c d a' c' d' : Int) (b b' : ByteArray) (w : World) :
    (Op.equalIn 10000 31 (.agg #[.int .i64 a, .string b, .int .u64 c, .int .i64 d]) (.agg #[.int .i64 a', .string b', .int .u64 c', .int .i64 d'])).run Tryd.prog w = .ok (a == a' && (b.toList == b'.toList) && c == c' && d == d') w := run_equalIn_tok 9998 a c d a' c' d' b b' w
theorem guard_tok (op : BinOp) (x y : Operand) (xs ys : Array Value) (w : World) : (eqGuard op 31 x y (.agg xs) (.agg ys)).run Tryd.prog w = .ok () w :=
  run_eqGuard_agg w op _ x y xs ys (by kernel_rfl)
end Go.Proofs.YtbiobefcagboeaaDoor
