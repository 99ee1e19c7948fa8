/-
  errors.As at an error number, and fault.Code, by walks. After the guide's worked example on errors.As.
-/
import Derived.Test.YtcefclglmhpdeaaGreatDoorAsF
namespace Go.Proofs.YtcefclglmhpdeaaGreatDoor
set_option linter.unusedVariables false
set_option linter.unusedSimpArgs false
open Go.RowKit Go.Extern.Stop Go.Stop Go.Extern
/-- New blocks, and then the cell t turned. -/
def Wrote (w w' : World) (t : Addr) (v : Value) : Prop := ∃ w1, Below w.heap.size w w1 ∧ w' = w1.setCell t v
theorem Wrote.below {w w' : World} {t : Addr} {v : Value} {B : Nat} (h : Wrote w w' t v) (ht : B ≤ t.block) (hB : B ≤ w.heap.size) : Below B w w' := by
  obtain ⟨w1, h1, rfl⟩ := h
  exact (h1.mono hB).setCell ht v
theorem cell_setCell_self (w : World) (t : Addr) (v old : Value) (h : w.cell? t = some old) : (w.setCell t v).cell? t = some v := by
  unfold World.cell? at h ⊢
  unfold World.setCell
  simp only [Array.getElem?_modify, if_true]
  cases hb : w.heap[t.block]? with
  | none => rw [hb] at h; cases h
  | some o =>
    rw [hb] at h
    cases o with
    | cells c e f =>
      simp only [Option.map_some] at h ⊢
      cases hs : t.spot.isSome with
      | true => simp [hs] at h
      | false =>
        simp only [hs, Bool.false_eq_true, if_false] at h ⊢
        obtain ⟨hlt, _⟩ := Array.getElem?_eq_some_iff.1 h
        simp [hlt]
    | _ => simp at h
theorem Wrote.cell {w w' : World} {t : Addr} {v old : Value} (h : Wrote w w' t v) (ht : w.cell? t = some old) : w'.cell? t = some v := by
  obtain ⟨w1, h1, rfl⟩ := h
  exact cell_setCell_self w1 t v old ((h1.cell (World.block_lt_of_cell? w t ht)).trans ht)
theorem Wrote.size {w w' : World} {t : Addr} {v : Value} (h : Wrote w w' t v) : w.heap.size ≤ w'.heap.size := by
  obtain ⟨w1, h1, rfl⟩ := h
  simpa [World.setCell] using h1.size
-- errors.as at a number, the target a number's variable.
set_option maxRecDepth 100000 in
set_option maxHeartbeats 1000000 in
theorem as_E (n : Int) (t a : Addr) (old : Value) (w : World) (ha : w.cell? a = some (.pointer (some t))) (ht : w.cell? t = some old) (hf : w.frozen? t = false) :
    Calls Tryz.prog 50 #[.iface 50 (.int .i64 n), .iface 74 (.pointer (some t)), .agg #[hand 74, .pointer (some a), .int .u64 150], .iface 129 (.agg #[hand 50])] w fun e w' =>
      e = .returned (.bool true) ∧ w' = ((w.alloc (.cells #[hand 74, .pointer (some a), .int .u64 150] 100)).alloc (.cells #[.int .i64 n] 50)).setCell t (.int .i64 n) := by
  have hal : a.block < w.heap.size := World.block_lt_of_cell? w a ha
  have htl : t.block < w.heap.size := World.block_lt_of_cell? w t ht
  have h10 := ext_TypeOf
  have h35 := ext_Assignable
  have h11 := ext_ElemV
  have h12 := ext_Set
  have h6 := ext_ValueOf
  have tO := E_typeOf
  have mA := E_methodAssignable
  have a25 := E_assignable
  have v25 := E_valueOf
  have el := E_elemV a t (w.alloc (.cells #[hand 74, .pointer (some a), .int .u64 150] 100)) (by rw [World.cell?_alloc_lt _ _ a hal]; exact ha)
  have st := E_set t ⟨w.heap.size + 1, 0, none⟩ n old ((w.alloc (.cells #[hand 74, .pointer (some a), .int .u64 150] 100)).alloc (.cells #[.int .i64 n] 50))
    (by rw [World.cell?_alloc_at _ _ _ _ (by simp)]; rfl)
    (by rw [World.cell?_alloc_lt _ _ t (by simp; omega), World.cell?_alloc_lt _ _ t htl]; exact ht)
    (by rw [World.frozen?_alloc_old _ _ t (by simp; omega), World.frozen?_alloc_old _ _ t (Nat.ne_of_lt htl)]; exact hf)
  go_enter Tryz.func50, Tryz.ntmps50
  go_wp2
  refine wp_loop_rounds 1 ?_
  rw [rounds_succ]
  go_wp2
  go_ret
  exact ⟨rfl, rfl⟩
set_option maxRecDepth 100000 in
set_option maxHeartbeats 1000000 in
theorem As_E (n : Int) (t : Addr) (old : Value) (w : World) (hg : w.cell? ⟨0, 0, none⟩ = some ETy) (ht : w.cell? t = some old) (hf : w.frozen? t = false) :
    Calls Tryz.prog 29 #[.iface 50 (.int .i64 n), .iface 74 (.pointer (some t))] w fun e w' => e = .returned (.bool true) ∧ Wrote w w' t (.int .i64 n) := by
  unfold ETy at hg
  have hlt : 0 < w.heap.size := World.block_lt_of_cell? w _ hg
  have htl : t.block < w.heap.size := World.block_lt_of_cell? w t ht
  have h6 := ext_ValueOf
  have h7 := ext_Type
  have h8 := ext_IsNil
  have h27 := ext_Kind
  have h37 := ext_Elem
  have h38 := ext_Implements
  have f6 := E_valueOfP
  have f7 := E_typeP
  have mK := E_methodKind
  have mE := E_methodElem
  have mI := E_methodImplements
  have k27 := E_kindP
  have k25 := E_kind
  have e27 := E_elem
  have i25 := E_implements
  have n8 := E_isNilP ⟨w.heap.size, 0, none⟩ t ((w.alloc (.cells #[.pointer (some t)] 74)).alloc (.cells #[hand 74, .pointer (some ⟨w.heap.size, 0, none⟩), .int .u64 150] 100)) (by simp)
  have hg2 : ((w.alloc (.cells #[.pointer (some t)] 74)).alloc (.cells #[hand 74, .pointer (some ⟨w.heap.size, 0, none⟩), .int .u64 150] 100)).cell? ⟨0, 0, none⟩ = some (.iface 129 (.agg #[hand 28])) := by
    rw [World.cell?_alloc_lt _ _ ⟨0, 0, none⟩ (by simp <;> try omega), World.cell?_alloc_lt _ _ ⟨0, 0, none⟩ hlt]; exact hg
  go_enter Tryz.func29, Tryz.ntmps29
  go_wp2_with (go_at_call 50; refine (as_E n t ⟨w.heap.size, 0, none⟩ old _ ?_ ?_ ?_).mono ?_; (rw [World.cell?_alloc_lt _ _ ⟨w.heap.size, 0, none⟩ (by simp)]; simp); (rw [World.cell?_alloc_lt _ _ t (by simp; omega), World.cell?_alloc_lt _ _ t htl]; exact ht); (rw [World.frozen?_alloc_old _ _ t (by simp; omega), World.frozen?_alloc_old _ _ t (Nat.ne_of_lt htl)]; exact hf); rintro e w' ⟨rfl, rfl⟩)
  go_ret
  exact ⟨rfl, _, ((((Below.refl _ _).alloc (Nat.le_refl _) _).alloc (by simp) _).alloc (by simp; omega) _).alloc (by simp; omega) _, rfl⟩
set_option maxRecDepth 100000 in
set_option maxHeartbeats 1000000 in
theorem Code_E (n : Int) (w : World) (hg : w.cell? ⟨0, 0, none⟩ = some ETy) :
    Calls Tryz.prog 16 #[.iface 50 (.int .i64 n)] w fun e w' => e = .returned (.int .i64 n) ∧ Below w.heap.size w w' := by
  have hlt : 0 < w.heap.size := World.block_lt_of_cell? w _ hg
  have HG := Lib.hid hg
  clear hg
  go_enter Tryz.func16, Tryz.ntmps16
  go_wp2_with fail
  refine (As_E n ⟨w.heap.size, 0, none⟩ (.int .i64 0) _ (by rw [World.cell?_alloc_lt _ _ _ hlt]; exact HG.out) (by simp) (by simp)).mono ?_
  rintro e w' ⟨rfl, hw⟩
  have hb : Below w.heap.size w w' := ((Below.refl _ _).alloc (Nat.le_refl _) _).trans (hw.below (by simp) (by simp))
  have hc := hw.cell (old := .int .i64 0) (by simp)
  have HB := Lib.hid hb
  clear hb hw
  go_wp2
  go_ret
  exact ⟨rfl, HB.out⟩
theorem Code_nil (w : World) : Calls Tryz.prog 16 #[.nilIface] w fun e w' => e = .returned (.int .i64 0) ∧ w = w' := by
  go_enter Tryz.func16, Tryz.ntmps16
  go_wp2
  go_ret
  exact ⟨rfl, rfl⟩
end Go.Proofs.YtcefclglmhpdeaaGreatDoor
