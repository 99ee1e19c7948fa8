/-
  errors.As over places: closed facts on the runtime's entries, at the places' type and the pointer to it; the type switch's answers.
-/
import Derived.Test.YtcefclglmhpdeaaGreatDoorAsE
namespace Go.Proofs.YtcefclglmhpdeaaGreatDoor
set_option linter.unusedVariables false
set_option linter.unusedSimpArgs false
open Go.RowKit Go.Extern.Stop Go.Stop Go.Extern
theorem P_valueOfP (t : Addr) (w : World) : (ReflectliteValue.unpack (.iface 88 (.pointer (some t)))).run Tryz.prog w
    = .ok (.agg #[hand 88, .pointer (some ⟨w.heap.size, 0, none⟩), .int .u64 150]) (w.alloc (.cells #[.pointer (some t)] 88)) := by kernel_rfl
theorem P_typeP (a : Addr) (w : World) : (ReflectliteValue.methodAny (ReflectliteValue.valueError "reflectlite.Value.Type" 0) (fun t _ _ _ => ReflectliteType.toType t) #[.agg #[hand 88, .pointer (some a), .int .u64 150]]).run Tryz.prog w
    = .ok (.iface 129 (.agg #[hand 88])) w := by kernel_rfl
theorem P_kindP (w : World) : ((ReflectliteType.abiMethod fun t => (fun a : Nat => Value.int IntKind.u8 (a : Int)) <$> Rtype.kind t) #[hand 88]).run Tryz.prog w = .ok (.int .u8 22) w := by kernel_rfl
theorem P_kind (w : World) : ((ReflectliteType.abiMethod fun t => (fun a : Nat => Value.int IntKind.u8 (a : Int)) <$> Rtype.kind t) #[hand 87]).run Tryz.prog w = .ok (.int .u8 22) w := by kernel_rfl
theorem P_partsP (a : Addr) (w : World) : (ReflectliteValue.parts (.agg #[hand 88, .pointer (some a), .int .u64 150])).run Tryz.prog w = .ok (some (88, a, 150)) w := by kernel_rfl
theorem P_isNilP (a p : Addr) (W : World) (ha : W.cell? a = some (.pointer (some p))) :
    (ReflectliteValue.method (ReflectliteValue.valueError "reflectlite.Value.IsNil" 0) ReflectliteValue.isNil #[.agg #[hand 88, .pointer (some a), .int .u64 150]]).run Tryz.prog W = .ok (.bool false) W := by
  rw [rlm]
  simp only [Sem.run_bind, P_partsP, Result.andThen]
  simp [ReflectliteValue.isNil, loadVar, isAgg, underlying, Tryz.underlying88, ha, Result.andThen]
theorem P_elem (w : World) : (ReflectliteType.method ReflectliteType.elem #[.agg #[hand 88]]).run Tryz.prog w = .ok (.iface 129 (.agg #[hand 87])) w := by kernel_rfl
theorem P_implements (w : World) : (ReflectliteType.relation "Implements" ReflectliteType.implements_ #[.agg #[hand 87], .iface 129 (.agg #[hand 28])]).run Tryz.prog w = .ok (.bool true) w := by kernel_rfl
theorem P_typeOf (v : Value) (w : World) : (ReflectliteType.typeOf #[.iface 87 v]).run Tryz.prog w = .ok (.iface 129 (.agg #[hand 87])) w := by kernel_rfl
theorem P_assignable (w : World) : (ReflectliteType.relation "AssignableTo" ReflectliteType.assignableTo #[.agg #[hand 87], .iface 129 (.agg #[hand 87])]).run Tryz.prog w = .ok (.bool true) w := by kernel_rfl
theorem P_valueOf (n : Addr) (w : World) : (ReflectliteValue.unpack (.iface 87 (.pointer (some n)))).run Tryz.prog w
    = .ok (.agg #[hand 87, .pointer (some ⟨w.heap.size, 0, none⟩), .int .u64 150]) (w.alloc (.cells #[.pointer (some n)] 87)) := by kernel_rfl
theorem P_elemOf (w : World) : (Rtype.elem? 88).run Tryz.prog w = .ok (some 87) w := by kernel_rfl
theorem P_mk (p : Addr) (w : World) : (ReflectliteValue.mk 87 p ReflectliteValue.flagAddr).run Tryz.prog w = .ok (.agg #[hand 87, .pointer (some p), .int .u64 406]) w := by kernel_rfl
theorem P_elemV (a p : Addr) (W : World) (ha : W.cell? a = some (.pointer (some p))) :
    (ReflectliteValue.method (ReflectliteValue.valueError "reflectlite.Value.Elem" 0) ReflectliteValue.elem #[.agg #[hand 88, .pointer (some a), .int .u64 150]]).run Tryz.prog W
      = .ok (.agg #[hand 87, .pointer (some p), .int .u64 406]) W := by
  rw [rlm]
  simp only [Sem.run_bind, P_partsP, Result.andThen]
  simp [ReflectliteValue.elem, loadVar, isAgg, underlying, Tryz.underlying88, ha, Result.andThen, P_elemOf, P_mk]
theorem P_partsA (a : Addr) (w : World) : (ReflectliteValue.parts (.agg #[hand 87, .pointer (some a), .int .u64 406])).run Tryz.prog w = .ok (some (87, a, 406)) w := by kernel_rfl
theorem P_parts (a : Addr) (w : World) : (ReflectliteValue.parts (.agg #[hand 87, .pointer (some a), .int .u64 150])).run Tryz.prog w = .ok (some (87, a, 150)) w := by kernel_rfl
theorem P_direct (w : World) : (Rtype.directlyAssignable 87 87).run Tryz.prog w = .ok true w := by kernel_rfl
theorem P_set (ta b : Addr) (n : Addr) (old : Value) (W : World) (hb : W.cell? b = some (.pointer (some n))) (ht : W.cell? ta = some old) (hf : W.frozen? ta = false) :
    (ReflectliteValue.set #[.agg #[hand 87, .pointer (some ta), .int .u64 406], .agg #[hand 87, .pointer (some b), .int .u64 150]]).run Tryz.prog W
      = .ok (.tuple #[]) (W.setCell ta (.pointer (some n))) := by
  rw [rls]
  simp only [Sem.run_bind, P_partsA, P_parts, Result.andThen]
  simp [ReflectliteValue.flagAddr, loadVar, isAgg, underlying, Tryz.underlying87, hb, Result.andThen, P_direct, storeVar, Value.cells, storeCells, Addr.add]
  rw [run_store Tryz.prog W ta _ _ (by rfl)]
  simp [ht, hf]


/-! ### The two kinds against each other, and the type switch -/
theorem EP_assignable (w : World) : (ReflectliteType.relation "AssignableTo" ReflectliteType.assignableTo #[.agg #[hand 50], .iface 129 (.agg #[hand 87])]).run Tryz.prog w = .ok (.bool false) w := by kernel_rfl
theorem PE_assignable (w : World) : (ReflectliteType.relation "AssignableTo" ReflectliteType.assignableTo #[.agg #[hand 87], .iface 129 (.agg #[hand 50])]).run Tryz.prog w = .ok (.bool false) w := by kernel_rfl
theorem P_noAs (v : Value) (xT : TypeId) (w : World) : (Instr.typeAssert (.iface 87 v) xT 133 true).run Tryz.prog w = .ok (.tuple #[.nilIface, .bool false]) w :=
  run_typeAssert_lacksB Tryz.underlying133 (by kernel_rfl) (by kernel_rfl) v xT w
theorem E_noAs (v : Value) (xT : TypeId) (w : World) : (Instr.typeAssert (.iface 50 v) xT 133 true).run Tryz.prog w = .ok (.tuple #[.nilIface, .bool false]) w :=
  run_typeAssert_lacksB Tryz.underlying133 (by kernel_rfl) (by kernel_rfl) v xT w
theorem P_unwraps (v : Value) (xT : TypeId) (w : World) : (Instr.typeAssert (.iface 87 v) xT 136 true).run Tryz.prog w = .ok (.tuple #[.iface 87 v, .bool true]) w :=
  run_typeAssert_hasB Tryz.underlying136 (by kernel_rfl) v xT w
theorem E_noUnwrap (v : Value) (xT : TypeId) (w : World) : (Instr.typeAssert (.iface 50 v) xT 136 true).run Tryz.prog w = .ok (.tuple #[.nilIface, .bool false]) w :=
  run_typeAssert_lacksB Tryz.underlying136 (by kernel_rfl) (by kernel_rfl) v xT w
theorem E_noUnwraps (v : Value) (xT : TypeId) (w : World) : (Instr.typeAssert (.iface 50 v) xT 138 true).run Tryz.prog w = .ok (.tuple #[.nilIface, .bool false]) w :=
  run_typeAssert_lacksB Tryz.underlying138 (by kernel_rfl) (by kernel_rfl) v xT w
theorem P_nilAhead (a : Addr) (w : World) : (nilAhead 307 87 (.pointer (some a)) "Unwrap").run Tryz.prog w = .ok (some false) w := by kernel_rfl
theorem P_unwrapMethod (a : Addr) (w : World) : (Go.method 307 87 (.pointer (some a)) "Unwrap").run Tryz.prog w = .ok (138, .pointer (some a)) w := by kernel_rfl
end Go.Proofs.YtcefclglmhpdeaaGreatDoor
