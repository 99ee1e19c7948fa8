/-
  Two labels held against each other.
-/
import Derived.Test.YtpjhbdhpphgldaaDoorRows
import Derived.Test.YtpjhbdhpphgldaaDoorNum
namespace Go.Proofs.YtpjhbdhpphgldaaDoor
set_option linter.unusedVariables false
set_option linter.unusedSimpArgs false
open Go.RowKit
theorem run_equalIn_label (n : Nat) (a b c d : UInt64) (w : World) :
    (Op.equalIn (n + 2) 38 (.agg #[U a, U b]) (.agg #[U c, U d])).run Tryd.prog w = .ok (a == c && b == d) w := by
  have hs : (Tryd.prog.info? 25).map (·.size) = some 1 := by kernel_rfl
  have hag : ∀ w, (isAgg 25).run Tryd.prog w = .ok false w := fun w => by kernel_rfl
  have hsz : ∀ w, (sizeOf 25).run Tryd.prog w = .ok 1 w := fun w => by kernel_rfl
  have he := fun (a b : Int) (w : World) => run_equalIn_int (P := Tryd.prog) w n 25 .u64 .u64 a b Tryd.underlying25
  have hr : List.range' 0 2 = [0, 1] := rfl
  unfold Op.equalIn
  simp [run_underlying Tryd.underlying38, part, hag, hsz, he, hr]
  have e1 : ((a.toNat : Int) = (c.toNat : Int)) = (a = c) := propext ⟨fun h => UInt64.toNat_inj.1 (by omega), fun h => by rw [h]⟩
  have e2 : ((b.toNat : Int) = (d.toNat : Int)) = (b = d) := propext ⟨fun h => UInt64.toNat_inj.1 (by omega), fun h => by rw [h]⟩
  simp only [e1, e2]
  by_cases h1 : a = c <;> by_cases h2 : b = d <;> simp [h1, h2]
@[go_sem] theorem run_eql_label (a b c d : UInt64) (w : World) :
    (binOp .eql 38 (.agg #[U a, U b]) (.agg #[U c, U d])).run Tryd.prog w = .ok (.bool (a == c && b == d)) w := by
  rw [run_eql_struct, run_equalIn_label 9998]
  rfl
theorem label_same (a b : UInt64) (w : World) : (binOp .eql 38 (.agg #[U a, U b]) (.agg #[U a, U b])).run Tryd.prog w = .ok (.bool true) w := by
  rw [run_eql_label]; simp
theorem label_awake (w : World) : (binOp .eql 38 (.agg #[.int .u64 135, .int .u64 0]) (.agg #[.int .u64 135, .int .u64 0])).run Tryd.prog w = .ok (.bool true) w := label_same 135 0 w
theorem guard_label (op : BinOp) (x y : Operand) (xs ys : Array Value) (w : World) : (eqGuard op 38 x y (.agg xs) (.agg ys)).run Tryd.prog w = .ok () w :=
  run_eqGuard_agg w op _ x y xs ys (by kernel_rfl)
end Go.Proofs.YtpjhbdhpphgldaaDoor
