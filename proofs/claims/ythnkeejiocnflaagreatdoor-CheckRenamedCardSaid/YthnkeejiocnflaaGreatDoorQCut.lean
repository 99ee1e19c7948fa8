/-
  Cuts of a slice: b[k:], as one equation; what the cut reads as.
-/
import Derived.Test.YthnkeejiocnflaaGreatDoorQMem
import Derived.Test.YthnkeejiocnflaaGreatDoorRows
import Derived.WalkKit
namespace Go.Proofs.YthnkeejiocnflaaGreatDoor
set_option linter.unusedVariables false
set_option linter.unusedSimpArgs false
open Go.RowKit
/-- The address behind a cut from l on. -/
def cutA (A : Option Addr) (l size m : Nat) : Option Addr := if m = l then A else A.map (·.add (l * size))
theorem run_cut_from {P : Program} {t e : TypeId} {size : Nat} (ht : P.underlying t = some (.slice e)) (hs : ∀ W, (sizeOf e).run P W = .ok size W) (A : Option Addr) {n c k : Nat} (hk : k ≤ n) (W : World) :
    (Instr.slice t (.slice A n c) (some (.int .i64 k)) none none).run P W = .ok (.slice (cutA A k size c) (n - k) (c - k)) W := by
  have hb : (Instr.sliceBounds true n c (some (.int .i64 k)) none none).run P W = .ok (k, n, c) W := by
    unfold Instr.sliceBounds
    have := run_sliceBound (P := P) (w := W) .i64 (k : Int) n .sliceB (by omega) (by omega)
    simp [go_sem, this]
  simp only [Instr.slice, Sem.run_bind, run_underlying ht, Result.andThen_ok, hb, hs, Sem.run_pure]
  rfl
theorem run_cutAt_from {P : Program} {t e : TypeId} {size : Nat} (ht : P.underlying t = some (.slice e)) (hs : ∀ W, (sizeOf e).run P W = .ok size W) (A : Option Addr) {n c k : Nat} (hk : k ≤ n) (W : World) :
    (Instr.sliceAt t (.slice A n c) (some (.int .i64 k)) none none).run P W = .ok (.slice (cutA A k size c) (n - k) (c - k)) W := by
  unfold Instr.sliceAt
  simp only [Sem.run_bind, run_underlying ht, Result.andThen_ok, run_cut_from ht hs A hk]
theorem run_cutAt_mid {P : Program} {t e : TypeId} {size : Nat} (ht : P.underlying t = some (.slice e)) (hs : ∀ W, (sizeOf e).run P W = .ok size W) (A : Option Addr) {n c k h : Nat} (hk : k ≤ h) (hh : h ≤ c) (W : World) :
    (Instr.sliceAt t (.slice A n c) (some (.int .i64 k)) (some (.int .i64 h)) none).run P W = .ok (.slice (cutA A k size c) (h - k) (c - k)) W := by
  have hb : (Instr.sliceBounds true n c (some (.int .i64 k)) (some (.int .i64 h)) none).run P W = .ok (k, h, c) W := by
    unfold Instr.sliceBounds
    have h1 := run_sliceBound (P := P) (w := W) .i64 (k : Int) h .sliceB (by omega) (by omega)
    have h2 := run_sliceBound (P := P) (w := W) .i64 (h : Int) c .sliceAcap (by omega) (by omega)
    simp [go_sem, h1, h2]
    intro hlt; omega
  unfold Instr.sliceAt
  simp only [Sem.run_bind, run_underlying ht, Result.andThen_ok]
  simp only [Instr.slice, Sem.run_bind, run_underlying ht, Result.andThen_ok, hb, hs, Sem.run_pure]
  rfl
theorem run_cutAt_to {P : Program} {t e : TypeId} {size : Nat} (ht : P.underlying t = some (.slice e)) (hs : ∀ W, (sizeOf e).run P W = .ok size W) (A : Option Addr) {n c h : Nat} (hh : h ≤ c) (W : World) :
    (Instr.sliceAt t (.slice A n c) none (some (.int .i64 h)) none).run P W = .ok (.slice (cutA A 0 size c) h c) W := by
  have hb : (Instr.sliceBounds true n c none (some (.int .i64 h)) none).run P W = .ok (0, h, c) W := by
    unfold Instr.sliceBounds
    have h2 := run_sliceBound (P := P) (w := W) .i64 (h : Int) c .sliceAcap (by omega) (by omega)
    simp [go_sem, h2]
  unfold Instr.sliceAt
  simp only [Sem.run_bind, run_underlying ht, Result.andThen_ok]
  simp only [Instr.slice, Sem.run_bind, run_underlying ht, Result.andThen_ok, hb, hs, Sem.run_pure]
  rfl
theorem cutA_zero (A : Option Addr) (size c : Nat) (h : A = none ∨ ∃ b o, A = some ⟨b, o, none⟩) : cutA A 0 size c = A := by
  unfold cutA
  split
  · rfl
  · rcases h with rfl | ⟨b, o, rfl⟩
    · rfl
    · simp [Addr.add]
theorem Rd.cut {w : World} {B : Nat} {A : Option Addr} {xs : List Value} (h : Rd w B A xs) {k c : Nat} (hc : xs.length ≤ c) : Rd w B (cutA A k 1 c) (xs.drop k) := by
  unfold cutA
  split
  · rename_i e
    rw [List.drop_eq_nil_of_le (by omega)]
    exact Rd.nil _ _ _
  · rcases h with rfl | ⟨b, o, rfl, hb, hx⟩
    · rw [List.drop_nil]; exact Rd.nil _ _ _
    · refine .inr ⟨b, o + k, ?_, hb, fun j v hv => ?_⟩
      · simp [Addr.add]
      · rw [List.getElem?_drop] at hv
        rw [Nat.add_assoc]
        exact hx _ _ hv
theorem Rd.moved {w : World} {B : Nat} {A : Option Addr} {xs : List Value} (h : Rd w B A xs) (k : Nat) : Rd w B (A.map (fun x => x.add k)) (xs.drop k) := by
  rcases h with rfl | ⟨b, o, rfl, hb, hx⟩
  · rw [List.drop_nil]; exact Rd.nil _ _ _
  · refine .inr ⟨b, o + k, ?_, hb, fun j v hv => ?_⟩
    · simp [Addr.add]
    · rw [List.getElem?_drop] at hv
      rw [Nat.add_assoc]
      exact hx _ _ hv
/-- The lesser of two numbers, as the builtin says it. -/
def minN (a b : Nat) : Nat := min a b
theorem minN_le (a b : Nat) : minN a b ≤ a ∧ minN a b ≤ b ∧ (minN a b = a ∨ minN a b = b) := by unfold minN; omega
theorem run_min_lit {P : Program} (w : World) (ts : Array TypeId) (t : TypeId) (a b : Nat) : (Builtin.min_ ts t #[.int .i64 (a : Int), .int .i64 (b : Int)]).run P w = .ok (.int .i64 (minN a b : Nat)) w := by
  rw [run_min_int2]
  congr 2
  unfold minN
  split <;> omega
attribute [irreducible] minN
attribute [irreducible] cutA
end Go.Proofs.YthnkeejiocnflaaGreatDoor
