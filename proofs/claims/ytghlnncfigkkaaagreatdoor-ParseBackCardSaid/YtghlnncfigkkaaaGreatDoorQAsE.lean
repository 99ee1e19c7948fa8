/-
  errors.As at an error number, and fault.Code, by walks. After the guide's worked example on errors.As. errors.As over places: closed facts on the runtime's entries, at the places' type and the pointer to it; the type switch's answers. errors.As over chains of places; fault.Code and fault.Wrap by contracts. fault.Code and fault.Wrap over chains, by contracts.
-/
import Derived.Test.YtghlnncfigkkaaaGreatDoorQMem
import Derived.Test.YtghlnncfigkkaaaGreatDoorQAsF
namespace Go.Proofs.YtghlnncfigkkaaaGreatDoor
set_option linter.unusedVariables false
set_option linter.unusedSimpArgs false
open Go.RowKit Go.Extern.Stop Go.Stop Go.Extern
def Wrote (w w' : World) (t : Addr) (v : Value) : Prop := ∃ w1, Below w.heap.size w w1 ∧ w' = w1.setCell t v
theorem Wrote.below {w w' : World} {t : Addr} {v : Value} {B : Nat} (h : Wrote w w' t v) (ht : B ≤ t.block) (hB : B ≤ w.heap.size) : Below B w w' := by
 obtain ⟨w1, h1, rfl⟩ := h
 exact (h1.mono hB).setCell ht v
theorem cell_setCell_self (w : World) (t : Addr) (v old : Value) (h : w.cell? t = some old) : (w.setCell t v).cell? t = some v := by
 unfold World.cell? at h ⊢
 unfold World.setCell
 simp only [Array.getElem?_modify, if_true]
 cases hb : w.heap[t.block]? with
 | none => rw [hb] at h; cases h
 | some o =>
  rw [hb] at h
  cases o with
  | cells c e f =>
   simp only [Option.map_some] at h ⊢
   cases hs : t.spot.isSome with
   | true => simp [hs] at h
   | false =>
    simp only [hs, Bool.false_eq_true, if_false] at h ⊢
    obtain ⟨hlt, _⟩ := Array.getElem?_eq_some_iff.1 h
    simp [hlt]
  | _ => simp at h
theorem Wrote.cell {w w' : World} {t : Addr} {v old : Value} (h : Wrote w w' t v) (ht : w.cell? t = some old) : w'.cell? t = some v := by
 obtain ⟨w1, h1, rfl⟩ := h
 exact cell_setCell_self w1 t v old ((h1.cell (World.block_lt_of_cell? w t ht)).trans ht)
set_option maxRecDepth 100000 in
set_option maxHeartbeats 1000000 in
theorem as_E (n : Int) (t a : Addr) (old : Value) (w : World) (ha : w.cell? a = some (.pointer (some t))) (ht : w.cell? t = some old) (hf : w.frozen? t = false) :
  Calls Tryz.prog 92 #[.iface 35 (.int .i64 n), .iface 104 (.pointer (some t)), .agg #[hand 104, .pointer (some a), .int .u64 150], .iface 237 (.agg #[hand 35])] w fun e w' =>
   e = .returned (.bool true) ∧ w' = ((w.alloc (.cells #[hand 104, .pointer (some a), .int .u64 150] 171)).alloc (.cells #[.int .i64 n] 35)).setCell t (.int .i64 n) := by
 have hal : a.block < w.heap.size := World.block_lt_of_cell? w a ha
 have htl : t.block < w.heap.size := World.block_lt_of_cell? w t ht
 have h10 := ext_TypeOf
 have h35 := ext_Assignable
 have h11 := ext_ElemV
 have h12 := ext_Set
 have h6 := ext_ValueOf
 have tO := E_typeOf
 have mA := E_methodAssignable
 have a25 := E_assignable
 have v25 := E_valueOf
 have el := E_elemV a t (w.alloc (.cells #[hand 104, .pointer (some a), .int .u64 150] 171)) (by rw [World.cell?_alloc_lt _ _ a hal]; exact ha)
 have st := E_set t ⟨w.heap.size + 1, 0, none⟩ n old ((w.alloc (.cells #[hand 104, .pointer (some a), .int .u64 150] 171)).alloc (.cells #[.int .i64 n] 35))
  (by rw [World.cell?_alloc_at _ _ _ _ (by simp)]; rfl)
  (by rw [World.cell?_alloc_lt _ _ t (by simp; omega), World.cell?_alloc_lt _ _ t htl]; exact ht)
  (by rw [World.frozen?_alloc_old _ _ t (by simp; omega), World.frozen?_alloc_old _ _ t (Nat.ne_of_lt htl)]; exact hf)
 go_enter Tryz.func92, Tryz.ntmps92
 go_wp2
 refine wp_loop_rounds 1 ?_
 rw [rounds_succ]
 go_wp2
 go_ret
 exact ⟨rfl, rfl⟩
theorem P_valueOfP (t : Addr) (w : World) : (ReflectliteValue.unpack (.iface 190 (.pointer (some t)))).run Tryz.prog w
  = .ok (.agg #[hand 190, .pointer (some ⟨w.heap.size, 0, none⟩), .int .u64 150]) (w.alloc (.cells #[.pointer (some t)] 190)) := by kernel_rfl
theorem P_typeP (a : Addr) (w : World) : (ReflectliteValue.methodAny (ReflectliteValue.valueError "reflectlite.Value.Type" 0) (fun t _ _ _ => ReflectliteType.toType t) #[.agg #[hand 190, .pointer (some a), .int .u64 150]]).run Tryz.prog w
  = .ok (.iface 237 (.agg #[hand 190])) w := by kernel_rfl
theorem P_kindP (w : World) : ((ReflectliteType.abiMethod fun t => (fun a : Nat => Value.int IntKind.u8 (a : Int)) <$> Rtype.kind t) #[hand 190]).run Tryz.prog w = .ok (.int .u8 22) w := by kernel_rfl
theorem P_kind (w : World) : ((ReflectliteType.abiMethod fun t => (fun a : Nat => Value.int IntKind.u8 (a : Int)) <$> Rtype.kind t) #[hand 189]).run Tryz.prog w = .ok (.int .u8 22) w := by kernel_rfl
theorem P_partsP (a : Addr) (w : World) : (ReflectliteValue.parts (.agg #[hand 190, .pointer (some a), .int .u64 150])).run Tryz.prog w = .ok (some (190, a, 150)) w := by kernel_rfl
theorem P_isNilP (a p : Addr) (W : World) (ha : W.cell? a = some (.pointer (some p))) :
  (ReflectliteValue.method (ReflectliteValue.valueError "reflectlite.Value.IsNil" 0) ReflectliteValue.isNil #[.agg #[hand 190, .pointer (some a), .int .u64 150]]).run Tryz.prog W = .ok (.bool false) W := by
 rw [rlm]
 simp only [Sem.run_bind, P_partsP, Result.andThen]
 simp [ReflectliteValue.isNil, loadVar, isAgg, underlying, Tryz.underlying190, ha, Result.andThen]
theorem P_elem (w : World) : (ReflectliteType.method ReflectliteType.elem #[.agg #[hand 190]]).run Tryz.prog w = .ok (.iface 237 (.agg #[hand 189])) w := by kernel_rfl
theorem P_implements (w : World) : (ReflectliteType.relation "Implements" ReflectliteType.implements_ #[.agg #[hand 189], .iface 237 (.agg #[hand 28])]).run Tryz.prog w = .ok (.bool true) w := by kernel_rfl
theorem P_typeOf (v : Value) (w : World) : (ReflectliteType.typeOf #[.iface 189 v]).run Tryz.prog w = .ok (.iface 237 (.agg #[hand 189])) w := by kernel_rfl
theorem EP_assignable (w : World) : (ReflectliteType.relation "AssignableTo" ReflectliteType.assignableTo #[.agg #[hand 35], .iface 237 (.agg #[hand 189])]).run Tryz.prog w = .ok (.bool false) w := by kernel_rfl
theorem PE_assignable (w : World) : (ReflectliteType.relation "AssignableTo" ReflectliteType.assignableTo #[.agg #[hand 189], .iface 237 (.agg #[hand 35])]).run Tryz.prog w = .ok (.bool false) w := by kernel_rfl
theorem P_noAs (v : Value) (xT : TypeId) (w : World) : (Instr.typeAssert (.iface 189 v) xT 241 true).run Tryz.prog w = .ok (.tuple #[.nilIface, .bool false]) w :=
 run_typeAssert_lacksB Tryz.underlying241 (by kernel_rfl) (by kernel_rfl) v xT w
theorem E_noAs (v : Value) (xT : TypeId) (w : World) : (Instr.typeAssert (.iface 35 v) xT 241 true).run Tryz.prog w = .ok (.tuple #[.nilIface, .bool false]) w :=
 run_typeAssert_lacksB Tryz.underlying241 (by kernel_rfl) (by kernel_rfl) v xT w
theorem P_unwraps (v : Value) (xT : TypeId) (w : World) : (Instr.typeAssert (.iface 189 v) xT 244 true).run Tryz.prog w = .ok (.tuple #[.iface 189 v, .bool true]) w :=
 run_typeAssert_hasB Tryz.underlying244 (by kernel_rfl) v xT w
theorem E_noUnwrap (v : Value) (xT : TypeId) (w : World) : (Instr.typeAssert (.iface 35 v) xT 244 true).run Tryz.prog w = .ok (.tuple #[.nilIface, .bool false]) w :=
 run_typeAssert_lacksB Tryz.underlying244 (by kernel_rfl) (by kernel_rfl) v xT w
theorem E_noUnwraps (v : Value) (xT : TypeId) (w : World) : (Instr.typeAssert (.iface 35 v) xT 246 true).run Tryz.prog w = .ok (.tuple #[.nilIface, .bool false]) w :=
 run_typeAssert_lacksB Tryz.underlying246 (by kernel_rfl) (by kernel_rfl) v xT w
theorem P_nilAhead (a : Addr) (w : World) : (nilAhead 437 189 (.pointer (some a)) "Unwrap").run Tryz.prog w = .ok (some false) w := by kernel_rfl
theorem P_unwrapMethod (a : Addr) (w : World) : (Go.method 437 189 (.pointer (some a)) "Unwrap").run Tryz.prog w = .ok (253, .pointer (some a)) w := by kernel_rfl
def IsErr (w : World) : Value → List (ByteArray × Int) → Int → Prop
 | v, [], code => v = .iface 35 (.int .i64 code)
 | v, (name, at_) :: r, code => ∃ (a : Nat) (inner : Value), v = .iface 189 (.pointer (some ⟨a, 0, none⟩)) ∧
   w.heap[a]? = some (.cells #[.string name, .int .i64 at_, .int .i64 ((r.length : Int) + 1), inner] 192 (0, 0)) ∧ IsErr w inner r code
theorem IsErr.keep {w w' : World} : ∀ {v : Value} {l : List (ByteArray × Int)} {code : Int}, IsErr w v l code → (∀ (k : Nat) (o : Obj), w.heap[k]? = some o → w'.heap[k]? = some o) → IsErr w' v l code
 | v, [], code, h, _ => h
 | v, (name, at_) :: r, code, h, hk => by
  obtain ⟨a, inner, hv, hc, hr⟩ := h
  exact ⟨a, inner, hv, hk _ _ hc, hr.keep hk⟩
theorem IsErr.next {w w' : World} {v : Value} {l : List (ByteArray × Int)} {code : Int} (h : IsErr w v l code) (hb : Below w.heap.size w w') : IsErr w' v l code :=
 h.keep fun k o hk => by rw [hb.block k (Array.getElem?_eq_some_iff.1 hk).1]; exact hk
theorem IsErr.iface {w : World} {v : Value} {l : List (ByteArray × Int)} {code : Int} (h : IsErr w v l code) : ∃ t x, v = .iface t x := by
 cases l with
 | nil => exact ⟨_, _, h⟩
 | cons p r => obtain ⟨a, inner, hv, _⟩ := h; exact ⟨_, _, hv⟩
theorem Unwrap_any (a : Nat) (name : ByteArray) (at_ d : Int) (inner : Value) (w : World) (hc : w.heap[a]? = some (.cells #[.string name, .int .i64 at_, .int .i64 d, inner] 192 (0, 0))) :
  Calls Tryz.prog 253 #[.pointer (some ⟨a, 0, none⟩)] w fun e w' => e = .returned inner ∧ w = w' := by
 have h3 : w.cell? ⟨a, 3, none⟩ = some inner := cell_of_row w a 3 _ _ (0, 0) hc
 clear hc
 go_enter Tryz.func253, Tryz.ntmps253
 go_wp2
 go_ret
 exact ⟨rfl, rfl⟩
def chainLen (w : World) (v : Value) : Nat :=
 match v with
 | .iface _ (.pointer (some a)) => match w.cell? ⟨a.block, 2, none⟩ with
  | some (.int _ d) => d.toNat
  | _ => 0
 | _ => 0
theorem chainLen_eq {w : World} {v : Value} {l : List (ByteArray × Int)} {code : Int} (h : IsErr w v l code) : chainLen w v = l.length := by
 cases l with
 | nil =>
  have hv' : v = .iface 35 (.int .i64 code) := h
  subst hv'
  rfl
 | cons p r =>
  obtain ⟨a, inner, rfl, hc, _⟩ := h
  have h2 : w.cell? ⟨a, 2, none⟩ = some (.int .i64 ((r.length : Int) + 1)) := cell_of_row w a 2 _ _ (0, 0) hc
  unfold chainLen
  simp only
  rw [h2]
  simp
def AsRel (w : World) (code : Int) (v : Value) : Prop := ∃ r : List (ByteArray × Int), IsErr w v r code
attribute [irreducible] chainLen
set_option maxRecDepth 100000 in
set_option maxHeartbeats 4000000 in
theorem as_EC (l : List (ByteArray × Int)) (code : Int) (v : Value) (t a : Addr) (old : Value) (w : World) (hv : IsErr w v l code) (ha : w.cell? a = some (.pointer (some t))) (ht : w.cell? t = some old) (hf : w.frozen? t = false) :
  Calls Tryz.prog 92 #[v, .iface 104 (.pointer (some t)), .agg #[hand 104, .pointer (some a), .int .u64 150], .iface 237 (.agg #[hand 35])] w fun e w' =>
   e = .returned (.bool true) ∧ Wrote w w' t (.int .i64 code) := by
 have hal : a.block < w.heap.size := World.block_lt_of_cell? w a ha
 have htl : t.block < w.heap.size := World.block_lt_of_cell? w t ht
 have h10 := ext_TypeOf
 have h35 := ext_Assignable
 have h11 := ext_ElemV
 have h12 := ext_Set
 have h6 := ext_ValueOf
 have tO := E_typeOf
 have tP := P_typeOf
 have mA := E_methodAssignable
 have a25 := E_assignable
 have pe := PE_assignable
 have v25 := E_valueOf
 have n1 := P_noAs
 have n2 := P_unwraps
 have n3 := P_nilAhead
 have n4 := P_unwrapMethod
 obtain ⟨W1, E1⟩ : ∃ W1, W1 = w.alloc (.cells #[hand 104, .pointer (some a), .int .u64 150] 171) := ⟨_, rfl⟩
 have hv1 : AsRel W1 code v := ⟨l, by rw [E1]; exact hv.next ((Below.refl _ _).alloc (Nat.le_refl _) _)⟩
 have el := E_elemV a t W1 (by rw [E1, World.cell?_alloc_lt _ _ a hal]; exact ha)
 have st := E_set t ⟨w.heap.size + 1, 0, none⟩ code old (W1.alloc (.cells #[.int .i64 code] 35))
  (by rw [E1, World.cell?_alloc_at _ _ _ _ (by simp)]; rfl)
  (by rw [E1, World.cell?_alloc_lt _ _ t (by simp; omega), World.cell?_alloc_lt _ _ t htl]; exact ht)
  (by rw [E1, World.frozen?_alloc_old _ _ t (by simp; omega), World.frozen?_alloc_old _ _ t (Nat.ne_of_lt htl)]; exact hf)
 have hb1 : W1.cell? ⟨w.heap.size, 0, none⟩ = some (hand 104) ∧ W1.cell? ⟨w.heap.size, 1, none⟩ = some (.pointer (some a)) ∧ W1.cell? ⟨w.heap.size, 2, none⟩ = some (.int .u64 150) := by
  have hh : W1.heap[w.heap.size]? = some (.cells #[hand 104, .pointer (some a), .int .u64 150] 171 (0, 0)) := by rw [E1]; exact heap_alloc_new w _
  exact ⟨cell_of_row _ _ 0 _ _ (0, 0) hh, cell_of_row _ _ 1 _ _ (0, 0) hh, cell_of_row _ _ 2 _ _ (0, 0) hh⟩
 have hz1 : W1.heap.size = w.heap.size + 1 := by rw [E1]; simp
 obtain ⟨hb10, hb11, hb12⟩ := hb1
 have HE := Lib.hid E1
 go_enter Tryz.func92, Tryz.ntmps92
 go_wp2
 rw [← E1]
 clear E1 hv ha ht hf
 go_loop [0] (fun v => AsRel W1 code v) (fun v => chainLen W1 v)
 case atStart => exact hv1
 case round =>
  clear hv1
  obtain ⟨r, hr⟩ := hrel
  cases r with
  | nil =>
   obtain rfl := (show _ = _ from hr)
   clear hr
   go_wp2
   go_ret
   exact ⟨rfl, W1.alloc (.cells #[.int .i64 code] 35), by rw [HE.out]; exact ((Below.refl _ _).alloc (Nat.le_refl _) _).alloc (by simp) _, rfl⟩
  | cons p r =>
   have hl := Lib.hid (chainLen_eq hr)
   obtain ⟨g, inner, rfl, hc, hi⟩ := hr
   have hl2 := Lib.hid (chainLen_eq hi)
   have HI := Lib.hid hi
   have HC := Lib.hid hc
   obtain ⟨ti, xi, rfl⟩ := hi.iface
   clear hi hc
   go_wp2_with (go_at_call 253; refine (Unwrap_any g _ _ _ _ _ HC.out).mono ?_; rintro e w' ⟨rfl, rfl⟩)
   exact ⟨⟨r, HI.out⟩, by rw [hl.out, hl2.out]; simp⟩
set_option maxRecDepth 100000 in
set_option maxHeartbeats 4000000 in
theorem as_PE (n : Int) (t a : Addr) (w : World) (ha : w.cell? a = some (.pointer (some t))) :
  Calls Tryz.prog 92 #[.iface 35 (.int .i64 n), .iface 190 (.pointer (some t)), .agg #[hand 190, .pointer (some a), .int .u64 150], .iface 237 (.agg #[hand 189])] w fun e w' =>
   e = .returned (.bool false) ∧ Below w.heap.size w w' := by
 have h10 := ext_TypeOf
 have h35 := ext_Assignable
 have tO := E_typeOf
 have mA := E_methodAssignable
 have ep := EP_assignable
 have n1 := E_noAs
 have n2 := E_noUnwrap
 have n3 := E_noUnwraps
 go_enter Tryz.func92, Tryz.ntmps92
 go_wp2
 refine wp_loop_rounds 1 ?_
 rw [rounds_succ]
 go_wp2
 go_ret
 exact ⟨rfl, (Below.refl _ _).alloc (Nat.le_refl _) _⟩
theorem As_keep {w : World} {o1 o2 : Obj} {a : Addr} {v : Value} (h : w.cell? a = some v) : ((w.alloc o1).alloc o2).cell? a = some v := by
 have hl := World.block_lt_of_cell? w a h
 rw [World.cell?_alloc_lt _ _ a (by simp; omega), World.cell?_alloc_lt _ _ a hl]
 exact h
theorem As_free {w : World} {o1 o2 : Obj} {a : Addr} {v : Value} (h : w.cell? a = some v) (hf : w.frozen? a = false) : ((w.alloc o1).alloc o2).frozen? a = false := by
 have hl := World.block_lt_of_cell? w a h
 rw [World.frozen?_alloc_old _ _ a (by simp; omega), World.frozen?_alloc_old _ _ a (Nat.ne_of_lt hl)]
 exact hf
theorem below2 (w : World) (o1 o2 : Obj) : Below w.heap.size w ((w.alloc o1).alloc o2) := ((Below.refl _ _).alloc (Nat.le_refl _) _).alloc (by simp) _
set_option maxRecDepth 100000 in
set_option maxHeartbeats 4000000 in
theorem As_EC (l : List (ByteArray × Int)) (code : Int) (v : Value) (t : Addr) (old : Value) (w : World) (hg : w.cell? ⟨0, 0, none⟩ = some ETy) (hv : IsErr w v l code) (ht : w.cell? t = some old) (hf : w.frozen? t = false) :
  Calls Tryz.prog 48 #[v, .iface 104 (.pointer (some t))] w fun e w' => e = .returned (.bool true) ∧ Wrote w w' t (.int .i64 code) := by
 unfold ETy at hg
 obtain ⟨tv, xv, rfl⟩ := hv.iface
 have h6 := ext_ValueOf
 have h7 := ext_Type
 have h8 := ext_IsNil
 have h27 := ext_Kind
 have h37 := ext_Elem
 have h38 := ext_Implements
 have f6 := E_valueOfP
 have f7 := E_typeP
 have mK := E_methodKind
 have mE := E_methodElem
 have mI := E_methodImplements
 have k27 := E_kindP
 have k25 := E_kind
 have e27 := E_elem
 have i25 := E_implements
 have n8 := E_isNilP ⟨w.heap.size, 0, none⟩ t ((w.alloc (.cells #[.pointer (some t)] 104)).alloc (.cells #[hand 104, .pointer (some ⟨w.heap.size, 0, none⟩), .int .u64 150] 171)) (by simp)
 have hg2 : ((w.alloc (.cells #[.pointer (some t)] 104)).alloc (.cells #[hand 104, .pointer (some ⟨w.heap.size, 0, none⟩), .int .u64 150] 171)).cell? ⟨0, 0, none⟩ = some (.iface 237 (.agg #[hand 28])) := As_keep hg
 have HV := Lib.hid hv
 have HT := Lib.hid ht
 have HF := Lib.hid hf
 clear hv ht hf
 go_enter Tryz.func48, Tryz.ntmps48
 go_wp2_with fail
 refine (as_EC l code _ t ⟨w.heap.size, 0, none⟩ old _ (HV.out.next (below2 _ _ _)) (by rw [World.cell?_alloc_lt _ _ ⟨w.heap.size, 0, none⟩ (by simp)]; simp) (As_keep HT.out) (As_free HT.out HF.out)).mono ?_
 rintro e w' ⟨rfl, hw⟩
 have HW := Lib.hid hw
 clear hw
 go_wp2
 go_ret
 refine ⟨rfl, ?_⟩
 obtain ⟨w1, hb1, rfl⟩ := HW.out
 exact ⟨w1, (below2 w _ _).trans (hb1.mono (by simp; omega)), rfl⟩
set_option maxRecDepth 100000 in
set_option maxHeartbeats 4000000 in
theorem As_PE (n : Int) (t : Addr) (w : World) (hg : w.cell? ⟨0, 0, none⟩ = some ETy) :
  Calls Tryz.prog 48 #[.iface 35 (.int .i64 n), .iface 190 (.pointer (some t))] w fun e w' => e = .returned (.bool false) ∧ Below w.heap.size w w' := by
 unfold ETy at hg
 have h6 := ext_ValueOf
 have h7 := ext_Type
 have h8 := ext_IsNil
 have h27 := ext_Kind
 have h37 := ext_Elem
 have h38 := ext_Implements
 have f6 := P_valueOfP
 have f7 := P_typeP
 have mK := E_methodKind
 have mE := E_methodElem
 have mI := E_methodImplements
 have k27 := P_kindP
 have k25 := P_kind
 have e27 := P_elem
 have i25 := P_implements
 have n8 := P_isNilP ⟨w.heap.size, 0, none⟩ t ((w.alloc (.cells #[.pointer (some t)] 190)).alloc (.cells #[hand 190, .pointer (some ⟨w.heap.size, 0, none⟩), .int .u64 150] 171)) (by simp)
 have hg2 : ((w.alloc (.cells #[.pointer (some t)] 190)).alloc (.cells #[hand 190, .pointer (some ⟨w.heap.size, 0, none⟩), .int .u64 150] 171)).cell? ⟨0, 0, none⟩ = some (.iface 237 (.agg #[hand 28])) := As_keep hg
 go_enter Tryz.func48, Tryz.ntmps48
 go_wp2_with fail
 refine (as_PE n t ⟨w.heap.size, 0, none⟩ _ (by rw [World.cell?_alloc_lt _ _ ⟨w.heap.size, 0, none⟩ (by simp)]; simp)).mono ?_
 rintro e w' ⟨rfl, hw⟩
 have HW := Lib.hid hw
 clear hw
 go_wp2
 go_ret
 exact ⟨rfl, (below2 w _ _).trans (HW.out.mono (by simp; omega))⟩
def ETyped (w : World) : Prop := w.cell? ⟨0, 0, none⟩ = some ETy
theorem ETyped.lt {w : World} (h : ETyped w) : 0 < w.heap.size := World.block_lt_of_cell? w _ h
theorem ETyped.next {w w' : World} (h : ETyped w) (hb : Below w.heap.size w w') : ETyped w' := (hb.cell (p := ⟨0, 0, none⟩) h.lt).trans h
def OutE (W : World) (l : List (ByteArray × Int)) (code : Int) (e : Ending) (w' : World) : Prop := ∃ v, e = .returned v ∧ IsErr w' v l code ∧ Below W.heap.size W w'
set_option maxRecDepth 100000 in
set_option maxHeartbeats 1000000 in
theorem Code_any (l : List (ByteArray × Int)) (code : Int) (v : Value) (w : World) (hg : ETyped w) (hv : IsErr w v l code) :
  Calls Tryz.prog 20 #[v] w fun e w' => e = .returned (.int .i64 code) ∧ Below w.heap.size w w' := by
 have hlt := hg.lt
 obtain ⟨tv, xv, rfl⟩ := hv.iface
 have HG := Lib.hid hg
 have HV := Lib.hid hv
 clear hg hv
 go_enter Tryz.func20, Tryz.ntmps20
 go_wp2_with fail
 refine (As_EC l code _ ⟨w.heap.size, 0, none⟩ (.int .i64 0) _ (HG.out.next ((Below.refl _ _).alloc (Nat.le_refl _) _)) (HV.out.next ((Below.refl _ _).alloc (Nat.le_refl _) _)) (by simp) (by simp)).mono ?_
 rintro e w' ⟨rfl, hw⟩
 have hb : Below w.heap.size w w' := ((Below.refl _ _).alloc (Nat.le_refl _) _).trans (hw.below (by simp) (by simp))
 have hc := hw.cell (old := .int .i64 0) (by simp)
 have HB := Lib.hid hb
 clear hb hw
 go_wp2
 go_ret
 exact ⟨rfl, HB.out⟩
set_option maxRecDepth 100000 in
set_option maxHeartbeats 1000000 in
theorem Wrap_E (code : Int) (name : ByteArray) (at_ : Int) (w : World) (hg : ETyped w) :
  Calls Tryz.prog 53 #[.iface 35 (.int .i64 code), .string name, .int .i64 at_] w (OutE w [(name, at_)] code) := by
 have HG := Lib.hid hg
 clear hg
 go_enter Tryz.func53, Tryz.ntmps53
 go_wp2_with fail
 refine (As_PE code ⟨w.heap.size, 0, none⟩ _ (HG.out.next ((Below.refl _ _).alloc (Nat.le_refl _) _))).mono ?_
 rintro e w' ⟨rfl, hw⟩
 have hb : Below w.heap.size w w' := ((Below.refl _ _).alloc (Nat.le_refl _) _).trans (hw.mono (by simp))
 have HB := Lib.hid hb
 clear hb hw
 go_wp2
 go_ret
 exact ⟨_, rfl, ⟨w'.heap.size, _, rfl, heap_alloc_new w' _, rfl⟩, HB.out.alloc HB.out.size _⟩
end Go.Proofs.YtghlnncfigkkaaaGreatDoor
