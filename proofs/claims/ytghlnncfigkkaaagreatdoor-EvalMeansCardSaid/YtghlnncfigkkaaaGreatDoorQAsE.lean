/-
  errors.As at an error number, and fault.Code, by walks. After the guide's worked example on errors.As. errors.As over places: closed facts on the runtime's entries, at the places' type and the pointer to it; the type switch's answers. errors.As over chains of places; fault.Code and fault.Wrap by contracts. fault.Code and fault.Wrap over chains, by contracts.
-/
import Derived.Test.YtghlnncfigkkaaaGreatDoorQNum
import Derived.Test.YtghlnncfigkkaaaGreatDoorQAsF
namespace Go.Proofs.YtghlnncfigkkaaaGreatDoor
set_option linter.unusedVariables false
set_option linter.unusedSimpArgs false
open Go.RowKit Go.Extern.Stop Go.Stop Go.Extern
/-- New blocks, and then the cell t turned. -/
def Wrote (w w' : World) (t : Addr) (v : Value) : Prop := ∃ w1, Below w.heap.size w w1 ∧ w' = w1.setCell t v
theorem Wrote.below {w w' : World} {t : Addr} {v : Value} {B : Nat} (h : Wrote w w' t v) (ht : B ≤ t.block) (hB : B ≤ w.heap.size) : Below B w w' := by
  obtain ⟨w1, h1, rfl⟩ := h
  exact (h1.mono hB).setCell ht v
theorem cell_setCell_self (w : World) (t : Addr) (v old : Value) (h : w.cell? t = some old) : (w.setCell t v).cell? t = some v := by
  unfold World.cell? at h ⊢
  unfold World.setCell
  simp only [Array.getElem?_modify, if_true]
  cases hb : w.heap[t.block]? with
  | none => rw [hb] at h; cases h
  | some o =>
    rw [hb] at h
    cases o with
    | cells c e f =>
      simp only [Option.map_some] at h ⊢
      cases hs : t.spot.isSome with
      | true => simp [hs] at h
      | false =>
        simp only [hs, Bool.false_eq_true, if_false] at h ⊢
        obtain ⟨hlt, _⟩ := Array.getElem?_eq_some_iff.1 h
        simp [hlt]
    | _ => simp at h
theorem Wrote.cell {w w' : World} {t : Addr} {v old : Value} (h : Wrote w w' t v) (ht : w.cell? t = some old) : w'.cell? t = some v := by
  obtain ⟨w1, h1, rfl⟩ := h
  exact cell_setCell_self w1 t v old ((h1.cell (World.block_lt_of_cell? w t ht)).trans ht)
theorem Wrote.size {w w' : World} {t : Addr} {v : Value} (h : Wrote w w' t v) : w.heap.size ≤ w'.heap.size := by
  obtain ⟨w1, h1, rfl⟩ := h
  simpa [World.setCell] using h1.size
-- errors.as at a number, the target a number's variable.
set_option maxRecDepth 100000 in
set_option maxHeartbeats 1000000 in
theorem as_E (n : Int) (t a : Addr) (old : Value) (w : World) (ha : w.cell? a = some (.pointer (some t))) (ht : w.cell? t = some old) (hf : w.frozen? t = false) :
    Calls Tryz.prog 92 #[.iface 35 (.int .i64 n), .iface 104 (.pointer (some t)), .agg #[hand 104, .pointer (some a), .int .u64 150], .iface 237 (.agg #[hand 35])] w fun e w' =>
      e = .returned (.bool true) ∧ w' = ((w.alloc (.cells #[hand 104, .pointer (some a), .int .u64 150] 171)).alloc (.cells #[.int .i64 n] 35)).setCell t (.int .i64 n) := by
  have hal : a.block < w.heap.size := World.block_lt_of_cell? w a ha
  have htl : t.block < w.heap.size := World.block_lt_of_cell? w t ht
  have h10 := ext_TypeOf
  have h35 := ext_Assignable
  have h11 := ext_ElemV
  have h12 := ext_Set
  have h6 := ext_ValueOf
  have tO := E_typeOf
  have mA := E_methodAssignable
  have a25 := E_assignable
  have v25 := E_valueOf
  have el := E_elemV a t (w.alloc (.cells #[hand 104, .pointer (some a), .int .u64 150] 171)) (by rw [World.cell?_alloc_lt _ _ a hal]; exact ha)
  have st := E_set t ⟨w.heap.size + 1, 0, none⟩ n old ((w.alloc (.cells #[hand 104, .pointer (some a), .int .u64 150] 171)).alloc (.cells #[.int .i64 n] 35))
    (by rw [World.cell?_alloc_at _ _ _ _ (by simp)]; rfl)
    (by rw [World.cell?_alloc_lt _ _ t (by simp; omega), World.cell?_alloc_lt _ _ t htl]; exact ht)
    (by rw [World.frozen?_alloc_old _ _ t (by simp; omega), World.frozen?_alloc_old _ _ t (Nat.ne_of_lt htl)]; exact hf)
  go_enter Tryz.func92, Tryz.ntmps92
  go_wp2
  refine wp_loop_rounds 1 ?_
  rw [rounds_succ]
  go_wp2
  go_ret
  exact ⟨rfl, rfl⟩
set_option maxRecDepth 100000 in
set_option maxHeartbeats 1000000 in
theorem As_E (n : Int) (t : Addr) (old : Value) (w : World) (hg : w.cell? ⟨0, 0, none⟩ = some ETy) (ht : w.cell? t = some old) (hf : w.frozen? t = false) :
    Calls Tryz.prog 48 #[.iface 35 (.int .i64 n), .iface 104 (.pointer (some t))] w fun e w' => e = .returned (.bool true) ∧ Wrote w w' t (.int .i64 n) := by
  unfold ETy at hg
  have hlt : 0 < w.heap.size := World.block_lt_of_cell? w _ hg
  have htl : t.block < w.heap.size := World.block_lt_of_cell? w t ht
  have h6 := ext_ValueOf
  have h7 := ext_Type
  have h8 := ext_IsNil
  have h27 := ext_Kind
  have h37 := ext_Elem
  have h38 := ext_Implements
  have f6 := E_valueOfP
  have f7 := E_typeP
  have mK := E_methodKind
  have mE := E_methodElem
  have mI := E_methodImplements
  have k27 := E_kindP
  have k25 := E_kind
  have e27 := E_elem
  have i25 := E_implements
  have n8 := E_isNilP ⟨w.heap.size, 0, none⟩ t ((w.alloc (.cells #[.pointer (some t)] 104)).alloc (.cells #[hand 104, .pointer (some ⟨w.heap.size, 0, none⟩), .int .u64 150] 171)) (by simp)
  have hg2 : ((w.alloc (.cells #[.pointer (some t)] 104)).alloc (.cells #[hand 104, .pointer (some ⟨w.heap.size, 0, none⟩), .int .u64 150] 171)).cell? ⟨0, 0, none⟩ = some (.iface 237 (.agg #[hand 28])) := by
    rw [World.cell?_alloc_lt _ _ ⟨0, 0, none⟩ (by simp <;> try omega), World.cell?_alloc_lt _ _ ⟨0, 0, none⟩ hlt]; exact hg
  go_enter Tryz.func48, Tryz.ntmps48
  go_wp2_with (go_at_call 92; refine (as_E n t ⟨w.heap.size, 0, none⟩ old _ ?_ ?_ ?_).mono ?_; (rw [World.cell?_alloc_lt _ _ ⟨w.heap.size, 0, none⟩ (by simp)]; simp); (rw [World.cell?_alloc_lt _ _ t (by simp; omega), World.cell?_alloc_lt _ _ t htl]; exact ht); (rw [World.frozen?_alloc_old _ _ t (by simp; omega), World.frozen?_alloc_old _ _ t (Nat.ne_of_lt htl)]; exact hf); rintro e w' ⟨rfl, rfl⟩)
  go_ret
  exact ⟨rfl, _, ((((Below.refl _ _).alloc (Nat.le_refl _) _).alloc (by simp) _).alloc (by simp; omega) _).alloc (by simp; omega) _, rfl⟩
set_option maxRecDepth 100000 in
set_option maxHeartbeats 1000000 in
theorem Code_E (n : Int) (w : World) (hg : w.cell? ⟨0, 0, none⟩ = some ETy) :
    Calls Tryz.prog 20 #[.iface 35 (.int .i64 n)] w fun e w' => e = .returned (.int .i64 n) ∧ Below w.heap.size w w' := by
  have hlt : 0 < w.heap.size := World.block_lt_of_cell? w _ hg
  have HG := Lib.hid hg
  clear hg
  go_enter Tryz.func20, Tryz.ntmps20
  go_wp2_with fail
  refine (As_E n ⟨w.heap.size, 0, none⟩ (.int .i64 0) _ (by rw [World.cell?_alloc_lt _ _ _ hlt]; exact HG.out) (by simp) (by simp)).mono ?_
  rintro e w' ⟨rfl, hw⟩
  have hb : Below w.heap.size w w' := ((Below.refl _ _).alloc (Nat.le_refl _) _).trans (hw.below (by simp) (by simp))
  have hc := hw.cell (old := .int .i64 0) (by simp)
  have HB := Lib.hid hb
  clear hb hw
  go_wp2
  go_ret
  exact ⟨rfl, HB.out⟩
theorem Code_nil (w : World) : Calls Tryz.prog 20 #[.nilIface] w fun e w' => e = .returned (.int .i64 0) ∧ w = w' := by
  go_enter Tryz.func20, Tryz.ntmps20
  go_wp2
  go_ret
  exact ⟨rfl, rfl⟩
end Go.Proofs.YtghlnncfigkkaaaGreatDoor
namespace Go.Proofs.YtghlnncfigkkaaaGreatDoor
set_option linter.unusedVariables false
set_option linter.unusedSimpArgs false
open Go.RowKit Go.Extern.Stop Go.Stop Go.Extern
theorem P_valueOfP (t : Addr) (w : World) : (ReflectliteValue.unpack (.iface 190 (.pointer (some t)))).run Tryz.prog w
    = .ok (.agg #[hand 190, .pointer (some ⟨w.heap.size, 0, none⟩), .int .u64 150]) (w.alloc (.cells #[.pointer (some t)] 190)) := by kernel_rfl
theorem P_typeP (a : Addr) (w : World) : (ReflectliteValue.methodAny (ReflectliteValue.valueError "reflectlite.Value.Type" 0) (fun t _ _ _ => ReflectliteType.toType t) #[.agg #[hand 190, .pointer (some a), .int .u64 150]]).run Tryz.prog w
    = .ok (.iface 237 (.agg #[hand 190])) w := by kernel_rfl
theorem P_kindP (w : World) : ((ReflectliteType.abiMethod fun t => (fun a : Nat => Value.int IntKind.u8 (a : Int)) <$> Rtype.kind t) #[hand 190]).run Tryz.prog w = .ok (.int .u8 22) w := by kernel_rfl
theorem P_kind (w : World) : ((ReflectliteType.abiMethod fun t => (fun a : Nat => Value.int IntKind.u8 (a : Int)) <$> Rtype.kind t) #[hand 189]).run Tryz.prog w = .ok (.int .u8 22) w := by kernel_rfl
theorem P_partsP (a : Addr) (w : World) : (ReflectliteValue.parts (.agg #[hand 190, .pointer (some a), .int .u64 150])).run Tryz.prog w = .ok (some (190, a, 150)) w := by kernel_rfl
theorem P_isNilP (a p : Addr) (W : World) (ha : W.cell? a = some (.pointer (some p))) :
    (ReflectliteValue.method (ReflectliteValue.valueError "reflectlite.Value.IsNil" 0) ReflectliteValue.isNil #[.agg #[hand 190, .pointer (some a), .int .u64 150]]).run Tryz.prog W = .ok (.bool false) W := by
  rw [rlm]
  simp only [Sem.run_bind, P_partsP, Result.andThen]
  simp [ReflectliteValue.isNil, loadVar, isAgg, underlying, Tryz.underlying190, ha, Result.andThen]
theorem P_elem (w : World) : (ReflectliteType.method ReflectliteType.elem #[.agg #[hand 190]]).run Tryz.prog w = .ok (.iface 237 (.agg #[hand 189])) w := by kernel_rfl
theorem P_implements (w : World) : (ReflectliteType.relation "Implements" ReflectliteType.implements_ #[.agg #[hand 189], .iface 237 (.agg #[hand 28])]).run Tryz.prog w = .ok (.bool true) w := by kernel_rfl
theorem P_typeOf (v : Value) (w : World) : (ReflectliteType.typeOf #[.iface 189 v]).run Tryz.prog w = .ok (.iface 237 (.agg #[hand 189])) w := by kernel_rfl
theorem P_assignable (w : World) : (ReflectliteType.relation "AssignableTo" ReflectliteType.assignableTo #[.agg #[hand 189], .iface 237 (.agg #[hand 189])]).run Tryz.prog w = .ok (.bool true) w := by kernel_rfl
theorem P_valueOf (n : Addr) (w : World) : (ReflectliteValue.unpack (.iface 189 (.pointer (some n)))).run Tryz.prog w
    = .ok (.agg #[hand 189, .pointer (some ⟨w.heap.size, 0, none⟩), .int .u64 150]) (w.alloc (.cells #[.pointer (some n)] 189)) := by kernel_rfl
theorem P_elemOf (w : World) : (Rtype.elem? 190).run Tryz.prog w = .ok (some 189) w := by kernel_rfl
theorem P_mk (p : Addr) (w : World) : (ReflectliteValue.mk 189 p ReflectliteValue.flagAddr).run Tryz.prog w = .ok (.agg #[hand 189, .pointer (some p), .int .u64 406]) w := by kernel_rfl
theorem P_elemV (a p : Addr) (W : World) (ha : W.cell? a = some (.pointer (some p))) :
    (ReflectliteValue.method (ReflectliteValue.valueError "reflectlite.Value.Elem" 0) ReflectliteValue.elem #[.agg #[hand 190, .pointer (some a), .int .u64 150]]).run Tryz.prog W
      = .ok (.agg #[hand 189, .pointer (some p), .int .u64 406]) W := by
  rw [rlm]
  simp only [Sem.run_bind, P_partsP, Result.andThen]
  simp [ReflectliteValue.elem, loadVar, isAgg, underlying, Tryz.underlying190, ha, Result.andThen, P_elemOf, P_mk]
theorem P_partsA (a : Addr) (w : World) : (ReflectliteValue.parts (.agg #[hand 189, .pointer (some a), .int .u64 406])).run Tryz.prog w = .ok (some (189, a, 406)) w := by kernel_rfl
theorem P_parts (a : Addr) (w : World) : (ReflectliteValue.parts (.agg #[hand 189, .pointer (some a), .int .u64 150])).run Tryz.prog w = .ok (some (189, a, 150)) w := by kernel_rfl
theorem P_direct (w : World) : (Rtype.directlyAssignable 189 189).run Tryz.prog w = .ok true w := by kernel_rfl
theorem P_set (ta b : Addr) (n : Addr) (old : Value) (W : World) (hb : W.cell? b = some (.pointer (some n))) (ht : W.cell? ta = some old) (hf : W.frozen? ta = false) :
    (ReflectliteValue.set #[.agg #[hand 189, .pointer (some ta), .int .u64 406], .agg #[hand 189, .pointer (some b), .int .u64 150]]).run Tryz.prog W
      = .ok (.tuple #[]) (W.setCell ta (.pointer (some n))) := by
  rw [rls]
  simp only [Sem.run_bind, P_partsA, P_parts, Result.andThen]
  simp [ReflectliteValue.flagAddr, loadVar, isAgg, underlying, Tryz.underlying189, hb, Result.andThen, P_direct, storeVar, Value.cells, storeCells, Addr.add]
  rw [run_store Tryz.prog W ta _ _ (by rfl)]
  simp [ht, hf]


/-! ### The two kinds against each other, and the type switch -/
theorem EP_assignable (w : World) : (ReflectliteType.relation "AssignableTo" ReflectliteType.assignableTo #[.agg #[hand 35], .iface 237 (.agg #[hand 189])]).run Tryz.prog w = .ok (.bool false) w := by kernel_rfl
theorem PE_assignable (w : World) : (ReflectliteType.relation "AssignableTo" ReflectliteType.assignableTo #[.agg #[hand 189], .iface 237 (.agg #[hand 35])]).run Tryz.prog w = .ok (.bool false) w := by kernel_rfl
theorem P_noAs (v : Value) (xT : TypeId) (w : World) : (Instr.typeAssert (.iface 189 v) xT 241 true).run Tryz.prog w = .ok (.tuple #[.nilIface, .bool false]) w :=
  run_typeAssert_lacksB Tryz.underlying241 (by kernel_rfl) (by kernel_rfl) v xT w
theorem E_noAs (v : Value) (xT : TypeId) (w : World) : (Instr.typeAssert (.iface 35 v) xT 241 true).run Tryz.prog w = .ok (.tuple #[.nilIface, .bool false]) w :=
  run_typeAssert_lacksB Tryz.underlying241 (by kernel_rfl) (by kernel_rfl) v xT w
theorem P_unwraps (v : Value) (xT : TypeId) (w : World) : (Instr.typeAssert (.iface 189 v) xT 244 true).run Tryz.prog w = .ok (.tuple #[.iface 189 v, .bool true]) w :=
  run_typeAssert_hasB Tryz.underlying244 (by kernel_rfl) v xT w
theorem E_noUnwrap (v : Value) (xT : TypeId) (w : World) : (Instr.typeAssert (.iface 35 v) xT 244 true).run Tryz.prog w = .ok (.tuple #[.nilIface, .bool false]) w :=
  run_typeAssert_lacksB Tryz.underlying244 (by kernel_rfl) (by kernel_rfl) v xT w
theorem E_noUnwraps (v : Value) (xT : TypeId) (w : World) : (Instr.typeAssert (.iface 35 v) xT 246 true).run Tryz.prog w = .ok (.tuple #[.nilIface, .bool false]) w :=
  run_typeAssert_lacksB Tryz.underlying246 (by kernel_rfl) (by kernel_rfl) v xT w
theorem P_nilAhead (a : Addr) (w : World) : (nilAhead 437 189 (.pointer (some a)) "Unwrap").run Tryz.prog w = .ok (some false) w := by kernel_rfl
theorem P_unwrapMethod (a : Addr) (w : World) : (Go.method 437 189 (.pointer (some a)) "Unwrap").run Tryz.prog w = .ok (253, .pointer (some a)) w := by kernel_rfl
end Go.Proofs.YtghlnncfigkkaaaGreatDoor
namespace Go.Proofs.YtghlnncfigkkaaaGreatDoor
set_option linter.unusedVariables false
set_option linter.unusedSimpArgs false
open Go.RowKit Go.Extern.Stop Go.Stop Go.Extern

/-- The interface value v is a number with places round it, the outermost first. -/
def IsErr (w : World) : Value → List (ByteArray × Int) → Int → Prop
  | v, [], code => v = .iface 35 (.int .i64 code)
  | v, (name, at_) :: r, code => ∃ (a : Nat) (inner : Value), v = .iface 189 (.pointer (some ⟨a, 0, none⟩)) ∧
      w.heap[a]? = some (.cells #[.string name, .int .i64 at_, .int .i64 ((r.length : Int) + 1), inner] 192 (0, 0)) ∧ IsErr w inner r code
theorem IsErr.keep {w w' : World} : ∀ {v : Value} {l : List (ByteArray × Int)} {code : Int}, IsErr w v l code → (∀ (k : Nat) (o : Obj), w.heap[k]? = some o → w'.heap[k]? = some o) → IsErr w' v l code
  | v, [], code, h, _ => h
  | v, (name, at_) :: r, code, h, hk => by
    obtain ⟨a, inner, hv, hc, hr⟩ := h
    exact ⟨a, inner, hv, hk _ _ hc, hr.keep hk⟩
theorem IsErr.next {w w' : World} {v : Value} {l : List (ByteArray × Int)} {code : Int} (h : IsErr w v l code) (hb : Below w.heap.size w w') : IsErr w' v l code :=
  h.keep fun k o hk => by rw [hb.block k (Array.getElem?_eq_some_iff.1 hk).1]; exact hk
theorem IsErr.iface {w : World} {v : Value} {l : List (ByteArray × Int)} {code : Int} (h : IsErr w v l code) : ∃ t x, v = .iface t x := by
  cases l with
  | nil => exact ⟨_, _, h⟩
  | cons p r => obtain ⟨a, inner, hv, _⟩ := h; exact ⟨_, _, hv⟩

/-- (*place).Unwrap -/
theorem Unwrap_any (a : Nat) (name : ByteArray) (at_ d : Int) (inner : Value) (w : World) (hc : w.heap[a]? = some (.cells #[.string name, .int .i64 at_, .int .i64 d, inner] 192 (0, 0))) :
    Calls Tryz.prog 253 #[.pointer (some ⟨a, 0, none⟩)] w fun e w' => e = .returned inner ∧ w = w' := by
  have h3 : w.cell? ⟨a, 3, none⟩ = some inner := cell_of_row w a 3 _ _ (0, 0) hc
  clear hc
  go_enter Tryz.func253, Tryz.ntmps253
  go_wp2
  go_ret
  exact ⟨rfl, rfl⟩
/-- How long a chain is, read off its head. -/
def chainLen (w : World) (v : Value) : Nat :=
  match v with
  | .iface _ (.pointer (some a)) => match w.cell? ⟨a.block, 2, none⟩ with
    | some (.int _ d) => d.toNat
    | _ => 0
  | _ => 0
theorem chainLen_eq {w : World} {v : Value} {l : List (ByteArray × Int)} {code : Int} (h : IsErr w v l code) : chainLen w v = l.length := by
  cases l with
  | nil =>
    have hv' : v = .iface 35 (.int .i64 code) := h
    subst hv'
    rfl
  | cons p r =>
    obtain ⟨a, inner, rfl, hc, _⟩ := h
    have h2 : w.cell? ⟨a, 2, none⟩ = some (.int .i64 ((r.length : Int) + 1)) := cell_of_row w a 2 _ _ (0, 0) hc
    unfold chainLen
    simp only
    rw [h2]
    simp
def AsRel (w : World) (code : Int) (v : Value) : Prop := ∃ r : List (ByteArray × Int), IsErr w v r code
attribute [irreducible] chainLen
-- errors.as over a chain, the target a number's variable: the number.
set_option maxRecDepth 100000 in
set_option maxHeartbeats 4000000 in
theorem as_EC (l : List (ByteArray × Int)) (code : Int) (v : Value) (t a : Addr) (old : Value) (w : World) (hv : IsErr w v l code) (ha : w.cell? a = some (.pointer (some t))) (ht : w.cell? t = some old) (hf : w.frozen? t = false) :
    Calls Tryz.prog 92 #[v, .iface 104 (.pointer (some t)), .agg #[hand 104, .pointer (some a), .int .u64 150], .iface 237 (.agg #[hand 35])] w fun e w' =>
      e = .returned (.bool true) ∧ Wrote w w' t (.int .i64 code) := by
  have hal : a.block < w.heap.size := World.block_lt_of_cell? w a ha
  have htl : t.block < w.heap.size := World.block_lt_of_cell? w t ht
  have h10 := ext_TypeOf
  have h35 := ext_Assignable
  have h11 := ext_ElemV
  have h12 := ext_Set
  have h6 := ext_ValueOf
  have tO := E_typeOf
  have tP := P_typeOf
  have mA := E_methodAssignable
  have a25 := E_assignable
  have pe := PE_assignable
  have v25 := E_valueOf
  have n1 := P_noAs
  have n2 := P_unwraps
  have n3 := P_nilAhead
  have n4 := P_unwrapMethod
  obtain ⟨W1, E1⟩ : ∃ W1, W1 = w.alloc (.cells #[hand 104, .pointer (some a), .int .u64 150] 171) := ⟨_, rfl⟩
  have hv1 : AsRel W1 code v := ⟨l, by rw [E1]; exact hv.next ((Below.refl _ _).alloc (Nat.le_refl _) _)⟩
  have el := E_elemV a t W1 (by rw [E1, World.cell?_alloc_lt _ _ a hal]; exact ha)
  have st := E_set t ⟨w.heap.size + 1, 0, none⟩ code old (W1.alloc (.cells #[.int .i64 code] 35))
    (by rw [E1, World.cell?_alloc_at _ _ _ _ (by simp)]; rfl)
    (by rw [E1, World.cell?_alloc_lt _ _ t (by simp; omega), World.cell?_alloc_lt _ _ t htl]; exact ht)
    (by rw [E1, World.frozen?_alloc_old _ _ t (by simp; omega), World.frozen?_alloc_old _ _ t (Nat.ne_of_lt htl)]; exact hf)
  have hb1 : W1.cell? ⟨w.heap.size, 0, none⟩ = some (hand 104) ∧ W1.cell? ⟨w.heap.size, 1, none⟩ = some (.pointer (some a)) ∧ W1.cell? ⟨w.heap.size, 2, none⟩ = some (.int .u64 150) := by
    have hh : W1.heap[w.heap.size]? = some (.cells #[hand 104, .pointer (some a), .int .u64 150] 171 (0, 0)) := by rw [E1]; exact heap_alloc_new w _
    exact ⟨cell_of_row _ _ 0 _ _ (0, 0) hh, cell_of_row _ _ 1 _ _ (0, 0) hh, cell_of_row _ _ 2 _ _ (0, 0) hh⟩
  have hz1 : W1.heap.size = w.heap.size + 1 := by rw [E1]; simp
  obtain ⟨hb10, hb11, hb12⟩ := hb1
  have HE := Lib.hid E1
  go_enter Tryz.func92, Tryz.ntmps92
  go_wp2
  rw [← E1]
  clear E1 hv ha ht hf
  go_loop [0] (fun v => AsRel W1 code v) (fun v => chainLen W1 v)
  case atStart => exact hv1
  case round =>
    clear hv1
    obtain ⟨r, hr⟩ := hrel
    cases r with
    | nil =>
      obtain rfl := (show _ = _ from hr)
      clear hr
      go_wp2
      go_ret
      exact ⟨rfl, W1.alloc (.cells #[.int .i64 code] 35), by rw [HE.out]; exact ((Below.refl _ _).alloc (Nat.le_refl _) _).alloc (by simp) _, rfl⟩
    | cons p r =>
      have hl := Lib.hid (chainLen_eq hr)
      obtain ⟨g, inner, rfl, hc, hi⟩ := hr
      have hl2 := Lib.hid (chainLen_eq hi)
      have HI := Lib.hid hi
      have HC := Lib.hid hc
      obtain ⟨ti, xi, rfl⟩ := hi.iface
      clear hi hc
      go_wp2_with (go_at_call 253; refine (Unwrap_any g _ _ _ _ _ HC.out).mono ?_; rintro e w' ⟨rfl, rfl⟩)
      exact ⟨⟨r, HI.out⟩, by rw [hl.out, hl2.out]; simp⟩
-- errors.as, the target a place's variable, at a chain with places: the outermost.
set_option maxRecDepth 100000 in
set_option maxHeartbeats 4000000 in
theorem as_PC (p : Addr) (t a : Addr) (old : Value) (w : World) (ha : w.cell? a = some (.pointer (some t))) (ht : w.cell? t = some old) (hf : w.frozen? t = false) :
    Calls Tryz.prog 92 #[.iface 189 (.pointer (some p)), .iface 190 (.pointer (some t)), .agg #[hand 190, .pointer (some a), .int .u64 150], .iface 237 (.agg #[hand 189])] w fun e w' =>
      e = .returned (.bool true) ∧ Wrote w w' t (.pointer (some p)) := by
  have hal : a.block < w.heap.size := World.block_lt_of_cell? w a ha
  have htl : t.block < w.heap.size := World.block_lt_of_cell? w t ht
  have h10 := ext_TypeOf
  have h35 := ext_Assignable
  have h11 := ext_ElemV
  have h12 := ext_Set
  have h6 := ext_ValueOf
  have tO := P_typeOf
  have mA := E_methodAssignable
  have a25 := P_assignable
  have v25 := P_valueOf
  have el := P_elemV a t (w.alloc (.cells #[hand 190, .pointer (some a), .int .u64 150] 171)) (by rw [World.cell?_alloc_lt _ _ a hal]; exact ha)
  have st := P_set t ⟨w.heap.size + 1, 0, none⟩ p old ((w.alloc (.cells #[hand 190, .pointer (some a), .int .u64 150] 171)).alloc (.cells #[.pointer (some p)] 189))
    (by rw [World.cell?_alloc_at _ _ _ _ (by simp)]; rfl)
    (by rw [World.cell?_alloc_lt _ _ t (by simp; omega), World.cell?_alloc_lt _ _ t htl]; exact ht)
    (by rw [World.frozen?_alloc_old _ _ t (by simp; omega), World.frozen?_alloc_old _ _ t (Nat.ne_of_lt htl)]; exact hf)
  go_enter Tryz.func92, Tryz.ntmps92
  go_wp2
  refine wp_loop_rounds 1 ?_
  rw [rounds_succ]
  go_wp2
  go_ret
  exact ⟨rfl, _, ((Below.refl _ _).alloc (Nat.le_refl _) _).alloc (by simp) _, rfl⟩
-- .. at a bare number: no.
set_option maxRecDepth 100000 in
set_option maxHeartbeats 4000000 in
theorem as_PE (n : Int) (t a : Addr) (w : World) (ha : w.cell? a = some (.pointer (some t))) :
    Calls Tryz.prog 92 #[.iface 35 (.int .i64 n), .iface 190 (.pointer (some t)), .agg #[hand 190, .pointer (some a), .int .u64 150], .iface 237 (.agg #[hand 189])] w fun e w' =>
      e = .returned (.bool false) ∧ Below w.heap.size w w' := by
  have h10 := ext_TypeOf
  have h35 := ext_Assignable
  have tO := E_typeOf
  have mA := E_methodAssignable
  have ep := EP_assignable
  have n1 := E_noAs
  have n2 := E_noUnwrap
  have n3 := E_noUnwraps
  go_enter Tryz.func92, Tryz.ntmps92
  go_wp2
  refine wp_loop_rounds 1 ?_
  rw [rounds_succ]
  go_wp2
  go_ret
  exact ⟨rfl, (Below.refl _ _).alloc (Nat.le_refl _) _⟩
/-- What errors.As does ahead of errors.as: the same for both targets. -/
theorem As_keep {w : World} {o1 o2 : Obj} {a : Addr} {v : Value} (h : w.cell? a = some v) : ((w.alloc o1).alloc o2).cell? a = some v := by
  have hl := World.block_lt_of_cell? w a h
  rw [World.cell?_alloc_lt _ _ a (by simp; omega), World.cell?_alloc_lt _ _ a hl]
  exact h
theorem As_free {w : World} {o1 o2 : Obj} {a : Addr} {v : Value} (h : w.cell? a = some v) (hf : w.frozen? a = false) : ((w.alloc o1).alloc o2).frozen? a = false := by
  have hl := World.block_lt_of_cell? w a h
  rw [World.frozen?_alloc_old _ _ a (by simp; omega), World.frozen?_alloc_old _ _ a (Nat.ne_of_lt hl)]
  exact hf
theorem below2 (w : World) (o1 o2 : Obj) : Below w.heap.size w ((w.alloc o1).alloc o2) := ((Below.refl _ _).alloc (Nat.le_refl _) _).alloc (by simp) _
set_option maxRecDepth 100000 in
set_option maxHeartbeats 4000000 in
theorem As_EC (l : List (ByteArray × Int)) (code : Int) (v : Value) (t : Addr) (old : Value) (w : World) (hg : w.cell? ⟨0, 0, none⟩ = some ETy) (hv : IsErr w v l code) (ht : w.cell? t = some old) (hf : w.frozen? t = false) :
    Calls Tryz.prog 48 #[v, .iface 104 (.pointer (some t))] w fun e w' => e = .returned (.bool true) ∧ Wrote w w' t (.int .i64 code) := by
  unfold ETy at hg
  obtain ⟨tv, xv, rfl⟩ := hv.iface
  have h6 := ext_ValueOf
  have h7 := ext_Type
  have h8 := ext_IsNil
  have h27 := ext_Kind
  have h37 := ext_Elem
  have h38 := ext_Implements
  have f6 := E_valueOfP
  have f7 := E_typeP
  have mK := E_methodKind
  have mE := E_methodElem
  have mI := E_methodImplements
  have k27 := E_kindP
  have k25 := E_kind
  have e27 := E_elem
  have i25 := E_implements
  have n8 := E_isNilP ⟨w.heap.size, 0, none⟩ t ((w.alloc (.cells #[.pointer (some t)] 104)).alloc (.cells #[hand 104, .pointer (some ⟨w.heap.size, 0, none⟩), .int .u64 150] 171)) (by simp)
  have hg2 : ((w.alloc (.cells #[.pointer (some t)] 104)).alloc (.cells #[hand 104, .pointer (some ⟨w.heap.size, 0, none⟩), .int .u64 150] 171)).cell? ⟨0, 0, none⟩ = some (.iface 237 (.agg #[hand 28])) := As_keep hg
  have HV := Lib.hid hv
  have HT := Lib.hid ht
  have HF := Lib.hid hf
  clear hv ht hf
  go_enter Tryz.func48, Tryz.ntmps48
  go_wp2_with fail
  refine (as_EC l code _ t ⟨w.heap.size, 0, none⟩ old _ (HV.out.next (below2 _ _ _)) (by rw [World.cell?_alloc_lt _ _ ⟨w.heap.size, 0, none⟩ (by simp)]; simp) (As_keep HT.out) (As_free HT.out HF.out)).mono ?_
  rintro e w' ⟨rfl, hw⟩
  have HW := Lib.hid hw
  clear hw
  go_wp2
  go_ret
  refine ⟨rfl, ?_⟩
  obtain ⟨w1, hb1, rfl⟩ := HW.out
  exact ⟨w1, (below2 w _ _).trans (hb1.mono (by simp; omega)), rfl⟩
set_option maxRecDepth 100000 in
set_option maxHeartbeats 4000000 in
theorem As_PC (p : Addr) (t : Addr) (old : Value) (w : World) (hg : w.cell? ⟨0, 0, none⟩ = some ETy) (ht : w.cell? t = some old) (hf : w.frozen? t = false) :
    Calls Tryz.prog 48 #[.iface 189 (.pointer (some p)), .iface 190 (.pointer (some t))] w fun e w' => e = .returned (.bool true) ∧ Wrote w w' t (.pointer (some p)) := by
  unfold ETy at hg
  have h6 := ext_ValueOf
  have h7 := ext_Type
  have h8 := ext_IsNil
  have h27 := ext_Kind
  have h37 := ext_Elem
  have h38 := ext_Implements
  have f6 := P_valueOfP
  have f7 := P_typeP
  have mK := E_methodKind
  have mE := E_methodElem
  have mI := E_methodImplements
  have k27 := P_kindP
  have k25 := P_kind
  have e27 := P_elem
  have i25 := P_implements
  have n8 := P_isNilP ⟨w.heap.size, 0, none⟩ t ((w.alloc (.cells #[.pointer (some t)] 190)).alloc (.cells #[hand 190, .pointer (some ⟨w.heap.size, 0, none⟩), .int .u64 150] 171)) (by simp)
  have hg2 : ((w.alloc (.cells #[.pointer (some t)] 190)).alloc (.cells #[hand 190, .pointer (some ⟨w.heap.size, 0, none⟩), .int .u64 150] 171)).cell? ⟨0, 0, none⟩ = some (.iface 237 (.agg #[hand 28])) := As_keep hg
  have HT := Lib.hid ht
  have HF := Lib.hid hf
  clear ht hf
  go_enter Tryz.func48, Tryz.ntmps48
  go_wp2_with fail
  refine (as_PC p t ⟨w.heap.size, 0, none⟩ old _ (by rw [World.cell?_alloc_lt _ _ ⟨w.heap.size, 0, none⟩ (by simp)]; simp) (As_keep HT.out) (As_free HT.out HF.out)).mono ?_
  rintro e w' ⟨rfl, hw⟩
  have HW := Lib.hid hw
  clear hw
  go_wp2
  go_ret
  refine ⟨rfl, ?_⟩
  obtain ⟨w1, hb1, rfl⟩ := HW.out
  exact ⟨w1, (below2 w _ _).trans (hb1.mono (by simp; omega)), rfl⟩
set_option maxRecDepth 100000 in
set_option maxHeartbeats 4000000 in
theorem As_PE (n : Int) (t : Addr) (w : World) (hg : w.cell? ⟨0, 0, none⟩ = some ETy) :
    Calls Tryz.prog 48 #[.iface 35 (.int .i64 n), .iface 190 (.pointer (some t))] w fun e w' => e = .returned (.bool false) ∧ Below w.heap.size w w' := by
  unfold ETy at hg
  have h6 := ext_ValueOf
  have h7 := ext_Type
  have h8 := ext_IsNil
  have h27 := ext_Kind
  have h37 := ext_Elem
  have h38 := ext_Implements
  have f6 := P_valueOfP
  have f7 := P_typeP
  have mK := E_methodKind
  have mE := E_methodElem
  have mI := E_methodImplements
  have k27 := P_kindP
  have k25 := P_kind
  have e27 := P_elem
  have i25 := P_implements
  have n8 := P_isNilP ⟨w.heap.size, 0, none⟩ t ((w.alloc (.cells #[.pointer (some t)] 190)).alloc (.cells #[hand 190, .pointer (some ⟨w.heap.size, 0, none⟩), .int .u64 150] 171)) (by simp)
  have hg2 : ((w.alloc (.cells #[.pointer (some t)] 190)).alloc (.cells #[hand 190, .pointer (some ⟨w.heap.size, 0, none⟩), .int .u64 150] 171)).cell? ⟨0, 0, none⟩ = some (.iface 237 (.agg #[hand 28])) := As_keep hg
  go_enter Tryz.func48, Tryz.ntmps48
  go_wp2_with fail
  refine (as_PE n t ⟨w.heap.size, 0, none⟩ _ (by rw [World.cell?_alloc_lt _ _ ⟨w.heap.size, 0, none⟩ (by simp)]; simp)).mono ?_
  rintro e w' ⟨rfl, hw⟩
  have HW := Lib.hid hw
  clear hw
  go_wp2
  go_ret
  exact ⟨rfl, (below2 w _ _).trans (HW.out.mono (by simp; omega))⟩
end Go.Proofs.YtghlnncfigkkaaaGreatDoor
namespace Go.Proofs.YtghlnncfigkkaaaGreatDoor
set_option linter.unusedVariables false
set_option linter.unusedSimpArgs false
open Go.RowKit Go.Extern.Stop Go.Stop Go.Extern
/-- The one package-level variable that errors.As reads holds what the program's text lays. -/
def ETyped (w : World) : Prop := w.cell? ⟨0, 0, none⟩ = some ETy
theorem ETyped.lt {w : World} (h : ETyped w) : 0 < w.heap.size := World.block_lt_of_cell? w _ h
theorem ETyped.next {w w' : World} (h : ETyped w) (hb : Below w.heap.size w w') : ETyped w' := (hb.cell (p := ⟨0, 0, none⟩) h.lt).trans h
theorem ETyped.drewN {w : World} (h : ETyped w) (n : Nat) : ETyped (w.drewN n) := h
/-- An error is handed back: a number with places round it. -/
def OutE (W : World) (l : List (ByteArray × Int)) (code : Int) (e : Ending) (w' : World) : Prop := ∃ v, e = .returned v ∧ IsErr w' v l code ∧ Below W.heap.size W w'
set_option maxRecDepth 100000 in
set_option maxHeartbeats 1000000 in
theorem Code_any (l : List (ByteArray × Int)) (code : Int) (v : Value) (w : World) (hg : ETyped w) (hv : IsErr w v l code) :
    Calls Tryz.prog 20 #[v] w fun e w' => e = .returned (.int .i64 code) ∧ Below w.heap.size w w' := by
  have hlt := hg.lt
  obtain ⟨tv, xv, rfl⟩ := hv.iface
  have HG := Lib.hid hg
  have HV := Lib.hid hv
  clear hg hv
  go_enter Tryz.func20, Tryz.ntmps20
  go_wp2_with fail
  refine (As_EC l code _ ⟨w.heap.size, 0, none⟩ (.int .i64 0) _ (HG.out.next ((Below.refl _ _).alloc (Nat.le_refl _) _)) (HV.out.next ((Below.refl _ _).alloc (Nat.le_refl _) _)) (by simp) (by simp)).mono ?_
  rintro e w' ⟨rfl, hw⟩
  have hb : Below w.heap.size w w' := ((Below.refl _ _).alloc (Nat.le_refl _) _).trans (hw.below (by simp) (by simp))
  have hc := hw.cell (old := .int .i64 0) (by simp)
  have HB := Lib.hid hb
  clear hb hw
  go_wp2
  go_ret
  exact ⟨rfl, HB.out⟩
set_option maxRecDepth 100000 in
set_option maxHeartbeats 1000000 in
theorem Wrap_E (code : Int) (name : ByteArray) (at_ : Int) (w : World) (hg : ETyped w) :
    Calls Tryz.prog 53 #[.iface 35 (.int .i64 code), .string name, .int .i64 at_] w (OutE w [(name, at_)] code) := by
  have HG := Lib.hid hg
  clear hg
  go_enter Tryz.func53, Tryz.ntmps53
  go_wp2_with fail
  refine (As_PE code ⟨w.heap.size, 0, none⟩ _ (HG.out.next ((Below.refl _ _).alloc (Nat.le_refl _) _))).mono ?_
  rintro e w' ⟨rfl, hw⟩
  have hb : Below w.heap.size w w' := ((Below.refl _ _).alloc (Nat.le_refl _) _).trans (hw.mono (by simp))
  have HB := Lib.hid hb
  clear hb hw
  go_wp2
  go_ret
  exact ⟨_, rfl, ⟨w'.heap.size, _, rfl, heap_alloc_new w' _, rfl⟩, HB.out.alloc HB.out.size _⟩
set_option maxRecDepth 100000 in
set_option maxHeartbeats 1000000 in
theorem Wrap_P (p : ByteArray × Int) (r : List (ByteArray × Int)) (code : Int) (v : Value) (name : ByteArray) (at_ : Int) (w : World) (hg : ETyped w) (hv : IsErr w v (p :: r) code) (hr : r.length ≤ 62) :
    Calls Tryz.prog 53 #[v, .string name, .int .i64 at_] w (OutE w ((name, at_) :: p :: r) code) := by
  obtain ⟨a, inner, rfl, hc, hi⟩ := hv
  have hlt := hg.lt
  have ha := (Array.getElem?_eq_some_iff.1 hc).1
  have HG := Lib.hid hg
  have HC := Lib.hid hc
  have HI := Lib.hid hi
  clear hg hc hi
  go_enter Tryz.func53, Tryz.ntmps53
  go_wp2_with fail
  refine (As_PC ⟨a, 0, none⟩ ⟨w.heap.size, 0, none⟩ (.pointer none) _ (HG.out.next ((Below.refl _ _).alloc (Nat.le_refl _) _)) (by simp) (by simp)).mono ?_
  rintro e w' ⟨rfl, hw⟩
  have hb : Below w.heap.size w w' := ((Below.refl _ _).alloc (Nat.le_refl _) _).trans (hw.below (by simp) (by simp))
  have hcc := hw.cell (old := .pointer none) (by simp)
  have hd : w'.cell? ⟨a, 2, none⟩ = some (.int .i64 ((r.length : Int) + 1)) := (hb.cell (p := ⟨a, 2, none⟩) ha).trans (cell_of_row w a 2 _ _ (0, 0) HC.out)
  have HB := Lib.hid hb
  clear hb hw
  go_wp2
  go_ret
  refine ⟨_, rfl, ⟨w'.heap.size, _, rfl, heap_alloc_new w' _, ?_⟩, HB.out.alloc HB.out.size _⟩
  exact (show IsErr w _ (p :: r) code from ⟨a, inner, rfl, HC.out, HI.out⟩).next (HB.out.alloc HB.out.size _)
set_option maxRecDepth 100000 in
set_option maxHeartbeats 1000000 in
theorem Wrap_full (l : List (ByteArray × Int)) (code : Int) (v : Value) (name : ByteArray) (at_ : Int) (w : World) (hg : ETyped w) (hv : IsErr w v l code) (hr : l.length = 64) :
    Calls Tryz.prog 53 #[v, .string name, .int .i64 at_] w (OutE w l code) := by
  have HV := Lib.hid hv
  obtain ⟨p, r, rfl⟩ : ∃ p r, l = p :: r := by
    cases l with
    | nil => simp at hr
    | cons p r => exact ⟨p, r, rfl⟩
  obtain ⟨a, inner, rfl, hc, hi⟩ := hv
  have hr63 : (r.length : Int) + 1 = 64 := by simp at hr; omega
  rw [hr63] at hc
  clear hr hr63
  have ha := (Array.getElem?_eq_some_iff.1 hc).1
  have HG := Lib.hid hg
  have HC := Lib.hid hc
  clear hg hc hi
  go_enter Tryz.func53, Tryz.ntmps53
  go_wp2_with fail
  refine (As_PC ⟨a, 0, none⟩ ⟨w.heap.size, 0, none⟩ (.pointer none) _ (HG.out.next ((Below.refl _ _).alloc (Nat.le_refl _) _)) (by simp) (by simp)).mono ?_
  rintro e w' ⟨rfl, hw⟩
  have hb : Below w.heap.size w w' := ((Below.refl _ _).alloc (Nat.le_refl _) _).trans (hw.below (by simp) (by simp))
  have hcc := hw.cell (old := .pointer none) (by simp)
  have hd : w'.cell? ⟨a, 2, none⟩ = some (.int .i64 64) := (hb.cell (p := ⟨a, 2, none⟩) ha).trans (cell_of_row w a 2 _ _ (0, 0) HC.out)
  have HB := Lib.hid hb
  clear hb hw
  go_wp2
  go_ret
  exact ⟨_, rfl, HV.out.next HB.out, HB.out⟩
theorem Wrap_nil (name : ByteArray) (at_ : Int) (w : World) :
    Calls Tryz.prog 53 #[.nilIface, .string name, .int .i64 at_] w fun e w' => e = .returned .nilIface ∧ w = w' := by
  go_enter Tryz.func53, Tryz.ntmps53
  go_wp2
  go_ret
  exact ⟨rfl, rfl⟩
end Go.Proofs.YtghlnncfigkkaaaGreatDoor
