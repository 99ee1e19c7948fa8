/-
  fault.Code and fault.Wrap over chains, by contracts.
-/
import Derived.Test.YtcefclglmhpdeaaGreatDoorAsC
namespace Go.Proofs.YtcefclglmhpdeaaGreatDoor
set_option linter.unusedVariables false
set_option linter.unusedSimpArgs false
open Go.RowKit Go.Extern.Stop Go.Stop Go.Extern
/-- The one package-level variable that errors.As reads holds what the program's text lays. -/
def ETyped (w : World) : Prop := w.cell? ⟨0, 0, none⟩ = some ETy
theorem ETyped.lt {w : World} (h : ETyped w) : 0 < w.heap.size := World.block_lt_of_cell? w _ h
theorem ETyped.next {w w' : World} (h : ETyped w) (hb : Below w.heap.size w w') : ETyped w' := (hb.cell (p := ⟨0, 0, none⟩) h.lt).trans h
theorem ETyped.drewN {w : World} (h : ETyped w) (n : Nat) : ETyped (w.drewN n) := h
/-- An error is handed back: a number with places round it. -/
def OutE (W : World) (l : List (ByteArray × Int)) (code : Int) (e : Ending) (w' : World) : Prop := ∃ v, e = .returned v ∧ IsErr w' v l code ∧ Below W.heap.size W w'
set_option maxRecDepth 100000 in
set_option maxHeartbeats 1000000 in
theorem Code_any (l : List (ByteArray × Int)) (code : Int) (v : Value) (w : World) (hg : ETyped w) (hv : IsErr w v l code) :
    Calls Tryz.prog 16 #[v] w fun e w' => e = .returned (.int .i64 code) ∧ Below w.heap.size w w' := by
  have hlt := hg.lt
  obtain ⟨tv, xv, rfl⟩ := hv.iface
  have HG := Lib.hid hg
  have HV := Lib.hid hv
  clear hg hv
  go_enter Tryz.func16, Tryz.ntmps16
  go_wp2_with fail
  refine (As_EC l code _ ⟨w.heap.size, 0, none⟩ (.int .i64 0) _ (HG.out.next ((Below.refl _ _).alloc (Nat.le_refl _) _)) (HV.out.next ((Below.refl _ _).alloc (Nat.le_refl _) _)) (by simp) (by simp)).mono ?_
  rintro e w' ⟨rfl, hw⟩
  have hb : Below w.heap.size w w' := ((Below.refl _ _).alloc (Nat.le_refl _) _).trans (hw.below (by simp) (by simp))
  have hc := hw.cell (old := .int .i64 0) (by simp)
  have HB := Lib.hid hb
  clear hb hw
  go_wp2
  go_ret
  exact ⟨rfl, HB.out⟩
set_option maxRecDepth 100000 in
set_option maxHeartbeats 1000000 in
theorem Wrap_E (code : Int) (name : ByteArray) (at_ : Int) (w : World) (hg : ETyped w) :
    Calls Tryz.prog 23 #[.iface 50 (.int .i64 code), .string name, .int .i64 at_] w (OutE w [(name, at_)] code) := by
  have HG := Lib.hid hg
  clear hg
  go_enter Tryz.func23, Tryz.ntmps23
  go_wp2_with fail
  refine (As_PE code ⟨w.heap.size, 0, none⟩ _ (HG.out.next ((Below.refl _ _).alloc (Nat.le_refl _) _))).mono ?_
  rintro e w' ⟨rfl, hw⟩
  have hb : Below w.heap.size w w' := ((Below.refl _ _).alloc (Nat.le_refl _) _).trans (hw.mono (by simp))
  have HB := Lib.hid hb
  clear hb hw
  go_wp2
  go_ret
  exact ⟨_, rfl, ⟨w'.heap.size, _, rfl, heap_alloc_new w' _, rfl⟩, HB.out.alloc HB.out.size _⟩
set_option maxRecDepth 100000 in
set_option maxHeartbeats 1000000 in
theorem Wrap_P (p : ByteArray × Int) (r : List (ByteArray × Int)) (code : Int) (v : Value) (name : ByteArray) (at_ : Int) (w : World) (hg : ETyped w) (hv : IsErr w v (p :: r) code) (hr : r.length ≤ 62) :
    Calls Tryz.prog 23 #[v, .string name, .int .i64 at_] w (OutE w ((name, at_) :: p :: r) code) := by
  obtain ⟨a, inner, rfl, hc, hi⟩ := hv
  have hlt := hg.lt
  have ha := (Array.getElem?_eq_some_iff.1 hc).1
  have HG := Lib.hid hg
  have HC := Lib.hid hc
  have HI := Lib.hid hi
  clear hg hc hi
  go_enter Tryz.func23, Tryz.ntmps23
  go_wp2_with fail
  refine (As_PC ⟨a, 0, none⟩ ⟨w.heap.size, 0, none⟩ (.pointer none) _ (HG.out.next ((Below.refl _ _).alloc (Nat.le_refl _) _)) (by simp) (by simp)).mono ?_
  rintro e w' ⟨rfl, hw⟩
  have hb : Below w.heap.size w w' := ((Below.refl _ _).alloc (Nat.le_refl _) _).trans (hw.below (by simp) (by simp))
  have hcc := hw.cell (old := .pointer none) (by simp)
  have hd : w'.cell? ⟨a, 2, none⟩ = some (.int .i64 ((r.length : Int) + 1)) := (hb.cell (p := ⟨a, 2, none⟩) ha).trans (cell_of_row w a 2 _ _ (0, 0) HC.out)
  have HB := Lib.hid hb
  clear hb hw
  go_wp2
  go_ret
  refine ⟨_, rfl, ⟨w'.heap.size, _, rfl, heap_alloc_new w' _, ?_⟩, HB.out.alloc HB.out.size _⟩
  exact (show IsErr w _ (p :: r) code from ⟨a, inner, rfl, HC.out, HI.out⟩).next (HB.out.alloc HB.out.size _)
set_option maxRecDepth 100000 in
set_option maxHeartbeats 1000000 in
theorem Wrap_full (l : List (ByteArray × Int)) (code : Int) (v : Value) (name : ByteArray) (at_ : Int) (w : World) (hg : ETyped w) (hv : IsErr w v l code) (hr : l.length = 64) :
    Calls Tryz.prog 23 #[v, .string name, .int .i64 at_] w (OutE w l code) := by
  have HV := Lib.hid hv
  obtain ⟨p, r, rfl⟩ : ∃ p r, l = p :: r := by
    cases l with
    | nil => simp at hr
    | cons p r => exact ⟨p, r, rfl⟩
  obtain ⟨a, inner, rfl, hc, hi⟩ := hv
  have hr63 : (r.length : Int) + 1 = 64 := by simp at hr; omega
  rw [hr63] at hc
  clear hr hr63
  have ha := (Array.getElem?_eq_some_iff.1 hc).1
  have HG := Lib.hid hg
  have HC := Lib.hid hc
  clear hg hc hi
  go_enter Tryz.func23, Tryz.ntmps23
  go_wp2_with fail
  refine (As_PC ⟨a, 0, none⟩ ⟨w.heap.size, 0, none⟩ (.pointer none) _ (HG.out.next ((Below.refl _ _).alloc (Nat.le_refl _) _)) (by simp) (by simp)).mono ?_
  rintro e w' ⟨rfl, hw⟩
  have hb : Below w.heap.size w w' := ((Below.refl _ _).alloc (Nat.le_refl _) _).trans (hw.below (by simp) (by simp))
  have hcc := hw.cell (old := .pointer none) (by simp)
  have hd : w'.cell? ⟨a, 2, none⟩ = some (.int .i64 64) := (hb.cell (p := ⟨a, 2, none⟩) ha).trans (cell_of_row w a 2 _ _ (0, 0) HC.out)
  have HB := Lib.hid hb
  clear hb hw
  go_wp2
  go_ret
  exact ⟨_, rfl, HV.out.next HB.out, HB.out⟩
theorem Wrap_nil (name : ByteArray) (at_ : Int) (w : World) :
    Calls Tryz.prog 23 #[.nilIface, .string name, .int .i64 at_] w fun e w' => e = .returned .nilIface ∧ w = w' := by
  go_enter Tryz.func23, Tryz.ntmps23
  go_wp2
  go_ret
  exact ⟨rfl, rfl⟩
end Go.Proofs.YtcefclglmhpdeaaGreatDoor
