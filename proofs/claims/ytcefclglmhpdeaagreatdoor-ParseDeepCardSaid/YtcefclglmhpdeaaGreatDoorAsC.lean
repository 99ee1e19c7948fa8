/-
  errors.As over chains of places; fault.Code and fault.Wrap by contracts.
-/
import Derived.Test.YtcefclglmhpdeaaGreatDoorAsP
import Derived.Test.YtcefclglmhpdeaaGreatDoorMem
namespace Go.Proofs.YtcefclglmhpdeaaGreatDoor
set_option linter.unusedVariables false
set_option linter.unusedSimpArgs false
open Go.RowKit Go.Extern.Stop Go.Stop Go.Extern

/-- The interface value v is a number with places round it, the outermost first. -/
def IsErr (w : World) : Value → List (ByteArray × Int) → Int → Prop
  | v, [], code => v = .iface 50 (.int .i64 code)
  | v, (name, at_) :: r, code => ∃ (a : Nat) (inner : Value), v = .iface 87 (.pointer (some ⟨a, 0, none⟩)) ∧
      w.heap[a]? = some (.cells #[.string name, .int .i64 at_, .int .i64 ((r.length : Int) + 1), inner] 90 (0, 0)) ∧ IsErr w inner r code
theorem IsErr.keep {w w' : World} : ∀ {v : Value} {l : List (ByteArray × Int)} {code : Int}, IsErr w v l code → (∀ (k : Nat) (o : Obj), w.heap[k]? = some o → w'.heap[k]? = some o) → IsErr w' v l code
  | v, [], code, h, _ => h
  | v, (name, at_) :: r, code, h, hk => by
    obtain ⟨a, inner, hv, hc, hr⟩ := h
    exact ⟨a, inner, hv, hk _ _ hc, hr.keep hk⟩
theorem IsErr.next {w w' : World} {v : Value} {l : List (ByteArray × Int)} {code : Int} (h : IsErr w v l code) (hb : Below w.heap.size w w') : IsErr w' v l code :=
  h.keep fun k o hk => by rw [hb.block k (Array.getElem?_eq_some_iff.1 hk).1]; exact hk
theorem IsErr.iface {w : World} {v : Value} {l : List (ByteArray × Int)} {code : Int} (h : IsErr w v l code) : ∃ t x, v = .iface t x := by
  cases l with
  | nil => exact ⟨_, _, h⟩
  | cons p r => obtain ⟨a, inner, hv, _⟩ := h; exact ⟨_, _, hv⟩

/-- (*place).Unwrap -/
theorem Unwrap_any (a : Nat) (name : ByteArray) (at_ d : Int) (inner : Value) (w : World) (hc : w.heap[a]? = some (.cells #[.string name, .int .i64 at_, .int .i64 d, inner] 90 (0, 0))) :
    Calls Tryz.prog 138 #[.pointer (some ⟨a, 0, none⟩)] w fun e w' => e = .returned inner ∧ w = w' := by
  have h3 : w.cell? ⟨a, 3, none⟩ = some inner := cell_of_row w a 3 _ _ (0, 0) hc
  clear hc
  go_enter Tryz.func138, Tryz.ntmps138
  go_wp2
  go_ret
  exact ⟨rfl, rfl⟩
/-- How long a chain is, read off its head. -/
def chainLen (w : World) (v : Value) : Nat :=
  match v with
  | .iface _ (.pointer (some a)) => match w.cell? ⟨a.block, 2, none⟩ with
    | some (.int _ d) => d.toNat
    | _ => 0
  | _ => 0
theorem chainLen_eq {w : World} {v : Value} {l : List (ByteArray × Int)} {code : Int} (h : IsErr w v l code) : chainLen w v = l.length := by
  cases l with
  | nil =>
    have hv' : v = .iface 50 (.int .i64 code) := h
    subst hv'
    rfl
  | cons p r =>
    obtain ⟨a, inner, rfl, hc, _⟩ := h
    have h2 : w.cell? ⟨a, 2, none⟩ = some (.int .i64 ((r.length : Int) + 1)) := cell_of_row w a 2 _ _ (0, 0) hc
    unfold chainLen
    simp only
    rw [h2]
    simp
def AsRel (w : World) (code : Int) (v : Value) : Prop := ∃ r : List (ByteArray × Int), IsErr w v r code
attribute [irreducible] chainLen
-- errors.as over a chain, the target a number's variable: the number.
set_option maxRecDepth 100000 in
set_option maxHeartbeats 4000000 in
theorem as_EC (l : List (ByteArray × Int)) (code : Int) (v : Value) (t a : Addr) (old : Value) (w : World) (hv : IsErr w v l code) (ha : w.cell? a = some (.pointer (some t))) (ht : w.cell? t = some old) (hf : w.frozen? t = false) :
    Calls Tryz.prog 50 #[v, .iface 74 (.pointer (some t)), .agg #[hand 74, .pointer (some a), .int .u64 150], .iface 129 (.agg #[hand 50])] w fun e w' =>
      e = .returned (.bool true) ∧ Wrote w w' t (.int .i64 code) := by
  have hal : a.block < w.heap.size := World.block_lt_of_cell? w a ha
  have htl : t.block < w.heap.size := World.block_lt_of_cell? w t ht
  have h10 := ext_TypeOf
  have h35 := ext_Assignable
  have h11 := ext_ElemV
  have h12 := ext_Set
  have h6 := ext_ValueOf
  have tO := E_typeOf
  have tP := P_typeOf
  have mA := E_methodAssignable
  have a25 := E_assignable
  have pe := PE_assignable
  have v25 := E_valueOf
  have n1 := P_noAs
  have n2 := P_unwraps
  have n3 := P_nilAhead
  have n4 := P_unwrapMethod
  obtain ⟨W1, E1⟩ : ∃ W1, W1 = w.alloc (.cells #[hand 74, .pointer (some a), .int .u64 150] 100) := ⟨_, rfl⟩
  have hv1 : AsRel W1 code v := ⟨l, by rw [E1]; exact hv.next ((Below.refl _ _).alloc (Nat.le_refl _) _)⟩
  have el := E_elemV a t W1 (by rw [E1, World.cell?_alloc_lt _ _ a hal]; exact ha)
  have st := E_set t ⟨w.heap.size + 1, 0, none⟩ code old (W1.alloc (.cells #[.int .i64 code] 50))
    (by rw [E1, World.cell?_alloc_at _ _ _ _ (by simp)]; rfl)
    (by rw [E1, World.cell?_alloc_lt _ _ t (by simp; omega), World.cell?_alloc_lt _ _ t htl]; exact ht)
    (by rw [E1, World.frozen?_alloc_old _ _ t (by simp; omega), World.frozen?_alloc_old _ _ t (Nat.ne_of_lt htl)]; exact hf)
  have hb1 : W1.cell? ⟨w.heap.size, 0, none⟩ = some (hand 74) ∧ W1.cell? ⟨w.heap.size, 1, none⟩ = some (.pointer (some a)) ∧ W1.cell? ⟨w.heap.size, 2, none⟩ = some (.int .u64 150) := by
    have hh : W1.heap[w.heap.size]? = some (.cells #[hand 74, .pointer (some a), .int .u64 150] 100 (0, 0)) := by rw [E1]; exact heap_alloc_new w _
    exact ⟨cell_of_row _ _ 0 _ _ (0, 0) hh, cell_of_row _ _ 1 _ _ (0, 0) hh, cell_of_row _ _ 2 _ _ (0, 0) hh⟩
  have hz1 : W1.heap.size = w.heap.size + 1 := by rw [E1]; simp
  obtain ⟨hb10, hb11, hb12⟩ := hb1
  have HE := Lib.hid E1
  go_enter Tryz.func50, Tryz.ntmps50
  go_wp2
  rw [← E1]
  clear E1 hv ha ht hf
  go_loop [0] (fun v => AsRel W1 code v) (fun v => chainLen W1 v)
  case atStart => exact hv1
  case round =>
    clear hv1
    obtain ⟨r, hr⟩ := hrel
    cases r with
    | nil =>
      obtain rfl := (show _ = _ from hr)
      clear hr
      go_wp2
      go_ret
      exact ⟨rfl, W1.alloc (.cells #[.int .i64 code] 50), by rw [HE.out]; exact ((Below.refl _ _).alloc (Nat.le_refl _) _).alloc (by simp) _, rfl⟩
    | cons p r =>
      have hl := Lib.hid (chainLen_eq hr)
      obtain ⟨g, inner, rfl, hc, hi⟩ := hr
      have hl2 := Lib.hid (chainLen_eq hi)
      have HI := Lib.hid hi
      have HC := Lib.hid hc
      obtain ⟨ti, xi, rfl⟩ := hi.iface
      clear hi hc
      go_wp2_with (go_at_call 138; refine (Unwrap_any g _ _ _ _ _ HC.out).mono ?_; rintro e w' ⟨rfl, rfl⟩)
      exact ⟨⟨r, HI.out⟩, by rw [hl.out, hl2.out]; simp⟩
-- errors.as, the target a place's variable, at a chain with places: the outermost.
set_option maxRecDepth 100000 in
set_option maxHeartbeats 4000000 in
theorem as_PC (p : Addr) (t a : Addr) (old : Value) (w : World) (ha : w.cell? a = some (.pointer (some t))) (ht : w.cell? t = some old) (hf : w.frozen? t = false) :
    Calls Tryz.prog 50 #[.iface 87 (.pointer (some p)), .iface 88 (.pointer (some t)), .agg #[hand 88, .pointer (some a), .int .u64 150], .iface 129 (.agg #[hand 87])] w fun e w' =>
      e = .returned (.bool true) ∧ Wrote w w' t (.pointer (some p)) := by
  have hal : a.block < w.heap.size := World.block_lt_of_cell? w a ha
  have htl : t.block < w.heap.size := World.block_lt_of_cell? w t ht
  have h10 := ext_TypeOf
  have h35 := ext_Assignable
  have h11 := ext_ElemV
  have h12 := ext_Set
  have h6 := ext_ValueOf
  have tO := P_typeOf
  have mA := E_methodAssignable
  have a25 := P_assignable
  have v25 := P_valueOf
  have el := P_elemV a t (w.alloc (.cells #[hand 88, .pointer (some a), .int .u64 150] 100)) (by rw [World.cell?_alloc_lt _ _ a hal]; exact ha)
  have st := P_set t ⟨w.heap.size + 1, 0, none⟩ p old ((w.alloc (.cells #[hand 88, .pointer (some a), .int .u64 150] 100)).alloc (.cells #[.pointer (some p)] 87))
    (by rw [World.cell?_alloc_at _ _ _ _ (by simp)]; rfl)
    (by rw [World.cell?_alloc_lt _ _ t (by simp; omega), World.cell?_alloc_lt _ _ t htl]; exact ht)
    (by rw [World.frozen?_alloc_old _ _ t (by simp; omega), World.frozen?_alloc_old _ _ t (Nat.ne_of_lt htl)]; exact hf)
  go_enter Tryz.func50, Tryz.ntmps50
  go_wp2
  refine wp_loop_rounds 1 ?_
  rw [rounds_succ]
  go_wp2
  go_ret
  exact ⟨rfl, _, ((Below.refl _ _).alloc (Nat.le_refl _) _).alloc (by simp) _, rfl⟩
-- .. at a bare number: no.
set_option maxRecDepth 100000 in
set_option maxHeartbeats 4000000 in
theorem as_PE (n : Int) (t a : Addr) (w : World) (ha : w.cell? a = some (.pointer (some t))) :
    Calls Tryz.prog 50 #[.iface 50 (.int .i64 n), .iface 88 (.pointer (some t)), .agg #[hand 88, .pointer (some a), .int .u64 150], .iface 129 (.agg #[hand 87])] w fun e w' =>
      e = .returned (.bool false) ∧ Below w.heap.size w w' := by
  have h10 := ext_TypeOf
  have h35 := ext_Assignable
  have tO := E_typeOf
  have mA := E_methodAssignable
  have ep := EP_assignable
  have n1 := E_noAs
  have n2 := E_noUnwrap
  have n3 := E_noUnwraps
  go_enter Tryz.func50, Tryz.ntmps50
  go_wp2
  refine wp_loop_rounds 1 ?_
  rw [rounds_succ]
  go_wp2
  go_ret
  exact ⟨rfl, (Below.refl _ _).alloc (Nat.le_refl _) _⟩
/-- What errors.As does ahead of errors.as: the same for both targets. -/
theorem As_keep {w : World} {o1 o2 : Obj} {a : Addr} {v : Value} (h : w.cell? a = some v) : ((w.alloc o1).alloc o2).cell? a = some v := by
  have hl := World.block_lt_of_cell? w a h
  rw [World.cell?_alloc_lt _ _ a (by simp; omega), World.cell?_alloc_lt _ _ a hl]
  exact h
theorem As_free {w : World} {o1 o2 : Obj} {a : Addr} {v : Value} (h : w.cell? a = some v) (hf : w.frozen? a = false) : ((w.alloc o1).alloc o2).frozen? a = false := by
  have hl := World.block_lt_of_cell? w a h
  rw [World.frozen?_alloc_old _ _ a (by simp; omega), World.frozen?_alloc_old _ _ a (Nat.ne_of_lt hl)]
  exact hf
theorem below2 (w : World) (o1 o2 : Obj) : Below w.heap.size w ((w.alloc o1).alloc o2) := ((Below.refl _ _).alloc (Nat.le_refl _) _).alloc (by simp) _
set_option maxRecDepth 100000 in
set_option maxHeartbeats 4000000 in
theorem As_EC (l : List (ByteArray × Int)) (code : Int) (v : Value) (t : Addr) (old : Value) (w : World) (hg : w.cell? ⟨0, 0, none⟩ = some ETy) (hv : IsErr w v l code) (ht : w.cell? t = some old) (hf : w.frozen? t = false) :
    Calls Tryz.prog 29 #[v, .iface 74 (.pointer (some t))] w fun e w' => e = .returned (.bool true) ∧ Wrote w w' t (.int .i64 code) := by
  unfold ETy at hg
  obtain ⟨tv, xv, rfl⟩ := hv.iface
  have h6 := ext_ValueOf
  have h7 := ext_Type
  have h8 := ext_IsNil
  have h27 := ext_Kind
  have h37 := ext_Elem
  have h38 := ext_Implements
  have f6 := E_valueOfP
  have f7 := E_typeP
  have mK := E_methodKind
  have mE := E_methodElem
  have mI := E_methodImplements
  have k27 := E_kindP
  have k25 := E_kind
  have e27 := E_elem
  have i25 := E_implements
  have n8 := E_isNilP ⟨w.heap.size, 0, none⟩ t ((w.alloc (.cells #[.pointer (some t)] 74)).alloc (.cells #[hand 74, .pointer (some ⟨w.heap.size, 0, none⟩), .int .u64 150] 100)) (by simp)
  have hg2 : ((w.alloc (.cells #[.pointer (some t)] 74)).alloc (.cells #[hand 74, .pointer (some ⟨w.heap.size, 0, none⟩), .int .u64 150] 100)).cell? ⟨0, 0, none⟩ = some (.iface 129 (.agg #[hand 28])) := As_keep hg
  have HV := Lib.hid hv
  have HT := Lib.hid ht
  have HF := Lib.hid hf
  clear hv ht hf
  go_enter Tryz.func29, Tryz.ntmps29
  go_wp2_with fail
  refine (as_EC l code _ t ⟨w.heap.size, 0, none⟩ old _ (HV.out.next (below2 _ _ _)) (by rw [World.cell?_alloc_lt _ _ ⟨w.heap.size, 0, none⟩ (by simp)]; simp) (As_keep HT.out) (As_free HT.out HF.out)).mono ?_
  rintro e w' ⟨rfl, hw⟩
  have HW := Lib.hid hw
  clear hw
  go_wp2
  go_ret
  refine ⟨rfl, ?_⟩
  obtain ⟨w1, hb1, rfl⟩ := HW.out
  exact ⟨w1, (below2 w _ _).trans (hb1.mono (by simp; omega)), rfl⟩
set_option maxRecDepth 100000 in
set_option maxHeartbeats 4000000 in
theorem As_PC (p : Addr) (t : Addr) (old : Value) (w : World) (hg : w.cell? ⟨0, 0, none⟩ = some ETy) (ht : w.cell? t = some old) (hf : w.frozen? t = false) :
    Calls Tryz.prog 29 #[.iface 87 (.pointer (some p)), .iface 88 (.pointer (some t))] w fun e w' => e = .returned (.bool true) ∧ Wrote w w' t (.pointer (some p)) := by
  unfold ETy at hg
  have h6 := ext_ValueOf
  have h7 := ext_Type
  have h8 := ext_IsNil
  have h27 := ext_Kind
  have h37 := ext_Elem
  have h38 := ext_Implements
  have f6 := P_valueOfP
  have f7 := P_typeP
  have mK := E_methodKind
  have mE := E_methodElem
  have mI := E_methodImplements
  have k27 := P_kindP
  have k25 := P_kind
  have e27 := P_elem
  have i25 := P_implements
  have n8 := P_isNilP ⟨w.heap.size, 0, none⟩ t ((w.alloc (.cells #[.pointer (some t)] 88)).alloc (.cells #[hand 88, .pointer (some ⟨w.heap.size, 0, none⟩), .int .u64 150] 100)) (by simp)
  have hg2 : ((w.alloc (.cells #[.pointer (some t)] 88)).alloc (.cells #[hand 88, .pointer (some ⟨w.heap.size, 0, none⟩), .int .u64 150] 100)).cell? ⟨0, 0, none⟩ = some (.iface 129 (.agg #[hand 28])) := As_keep hg
  have HT := Lib.hid ht
  have HF := Lib.hid hf
  clear ht hf
  go_enter Tryz.func29, Tryz.ntmps29
  go_wp2_with fail
  refine (as_PC p t ⟨w.heap.size, 0, none⟩ old _ (by rw [World.cell?_alloc_lt _ _ ⟨w.heap.size, 0, none⟩ (by simp)]; simp) (As_keep HT.out) (As_free HT.out HF.out)).mono ?_
  rintro e w' ⟨rfl, hw⟩
  have HW := Lib.hid hw
  clear hw
  go_wp2
  go_ret
  refine ⟨rfl, ?_⟩
  obtain ⟨w1, hb1, rfl⟩ := HW.out
  exact ⟨w1, (below2 w _ _).trans (hb1.mono (by simp; omega)), rfl⟩
set_option maxRecDepth 100000 in
set_option maxHeartbeats 4000000 in
theorem As_PE (n : Int) (t : Addr) (w : World) (hg : w.cell? ⟨0, 0, none⟩ = some ETy) :
    Calls Tryz.prog 29 #[.iface 50 (.int .i64 n), .iface 88 (.pointer (some t))] w fun e w' => e = .returned (.bool false) ∧ Below w.heap.size w w' := by
  unfold ETy at hg
  have h6 := ext_ValueOf
  have h7 := ext_Type
  have h8 := ext_IsNil
  have h27 := ext_Kind
  have h37 := ext_Elem
  have h38 := ext_Implements
  have f6 := P_valueOfP
  have f7 := P_typeP
  have mK := E_methodKind
  have mE := E_methodElem
  have mI := E_methodImplements
  have k27 := P_kindP
  have k25 := P_kind
  have e27 := P_elem
  have i25 := P_implements
  have n8 := P_isNilP ⟨w.heap.size, 0, none⟩ t ((w.alloc (.cells #[.pointer (some t)] 88)).alloc (.cells #[hand 88, .pointer (some ⟨w.heap.size, 0, none⟩), .int .u64 150] 100)) (by simp)
  have hg2 : ((w.alloc (.cells #[.pointer (some t)] 88)).alloc (.cells #[hand 88, .pointer (some ⟨w.heap.size, 0, none⟩), .int .u64 150] 100)).cell? ⟨0, 0, none⟩ = some (.iface 129 (.agg #[hand 28])) := As_keep hg
  go_enter Tryz.func29, Tryz.ntmps29
  go_wp2_with fail
  refine (as_PE n t ⟨w.heap.size, 0, none⟩ _ (by rw [World.cell?_alloc_lt _ _ ⟨w.heap.size, 0, none⟩ (by simp)]; simp)).mono ?_
  rintro e w' ⟨rfl, hw⟩
  have HW := Lib.hid hw
  clear hw
  go_wp2
  go_ret
  exact ⟨rfl, (below2 w _ _).trans (HW.out.mono (by simp; omega))⟩
end Go.Proofs.YtcefclglmhpdeaaGreatDoor
