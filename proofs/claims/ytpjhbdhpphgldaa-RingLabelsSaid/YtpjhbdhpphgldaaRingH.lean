/-
  The walk of RingLabels.
-/
import Derived.Test.YtpjhbdhpphgldaaRingC
import Derived.Deep.RegionHeld3
import Derived.Deep.DrawnRows
namespace Go.Proofs.Ytpjhbdhpphgldaa
set_option linter.unusedVariables false
set_option linter.unusedSimpArgs false
open Go.RowKit
theorem rDouble_any' (a b : UInt64) (w : World) :
    Calls Try.prog 18 #[.agg #[U a, U b]] w fun e w' => e = .returned (.agg #[U (dblLo a b), U (dblHi a b)]) ∧ Below w.heap.size w w' := by
  have h := rDouble_any a b w
  rw [dbl_hi] at h
  exact h
theorem lab_keep {W w w' : World} {g : Nat} {a b c d : UInt64} (hb : Below w.heap.size w w')
    (h : w.cell? ⟨g, 0, none⟩ = some (U a) ∧ w.cell? ⟨g, 1, none⟩ = some (U b) ∧ w.cell? ⟨g + 1, 0, none⟩ = some (U c) ∧ w.cell? ⟨g + 1, 1, none⟩ = some (U d) ∧ g + 1 < w.heap.size ∧ Below W.heap.size W w) :
    w'.cell? ⟨g, 0, none⟩ = some (U a) ∧ w'.cell? ⟨g, 1, none⟩ = some (U b) ∧ w'.cell? ⟨g + 1, 0, none⟩ = some (U c) ∧ w'.cell? ⟨g + 1, 1, none⟩ = some (U d) ∧ g + 1 < w'.heap.size ∧ Below W.heap.size W w' := by
  obtain ⟨h1, h2, h3, h4, h5, h6⟩ := h
  have hs := hb.size
  exact ⟨(hb.cell (p := ⟨g, 0, none⟩) (by simp; omega)).trans h1, (hb.cell (p := ⟨g, 1, none⟩) (by simp; omega)).trans h2, (hb.cell (p := ⟨g + 1, 0, none⟩) h5).trans h3, (hb.cell (p := ⟨g + 1, 1, none⟩) h5).trans h4, by omega, bnext h6 hb⟩
theorem lab_below {W w : World} {g : Nat} {a b c d : UInt64}
    (h : w.cell? ⟨g, 0, none⟩ = some (U a) ∧ w.cell? ⟨g, 1, none⟩ = some (U b) ∧ w.cell? ⟨g + 1, 0, none⟩ = some (U c) ∧ w.cell? ⟨g + 1, 1, none⟩ = some (U d) ∧ g + 1 < w.heap.size ∧ Below W.heap.size W w) : Below W.heap.size W w := h.2.2.2.2.2
theorem lab_start (w : World) (a b c d : UInt64) (t : TypeId) :
    (((w.alloc (.cells #[U a, U b] t)).alloc (.cells #[U c, U d] t)).drew).cell? ⟨w.heap.size, 0, none⟩ = some (U a) ∧ (((w.alloc (.cells #[U a, U b] t)).alloc (.cells #[U c, U d] t)).drew).cell? ⟨w.heap.size, 1, none⟩ = some (U b) ∧
    (((w.alloc (.cells #[U a, U b] t)).alloc (.cells #[U c, U d] t)).drew).cell? ⟨w.heap.size + 1, 0, none⟩ = some (U c) ∧ (((w.alloc (.cells #[U a, U b] t)).alloc (.cells #[U c, U d] t)).drew).cell? ⟨w.heap.size + 1, 1, none⟩ = some (U d) ∧
    w.heap.size + 1 < (((w.alloc (.cells #[U a, U b] t)).alloc (.cells #[U c, U d] t)).drew).heap.size ∧ Below w.heap.size w (((w.alloc (.cells #[U a, U b] t)).alloc (.cells #[U c, U d] t)).drew) := by
  obtain ⟨h1, h2, h3⟩ := heap_two w (.cells #[U a, U b] t) (.cells #[U c, U d] t)
  refine ⟨?_, ?_, ?_, ?_, ?_, ?_⟩
  · exact cell_of_row _ w.heap.size 0 _ t (0, 0) h1
  · exact cell_of_row _ w.heap.size 1 _ t (0, 0) h1
  · exact cell_of_row _ (w.heap.size + 1) 0 _ t (0, 0) h2
  · exact cell_of_row _ (w.heap.size + 1) 1 _ t (0, 0) h2
  · show _ < ((w.alloc (.cells #[U a, U b] t)).alloc (.cells #[U c, U d] t)).heap.size
    rw [h3]; omega
  · exact (((Below.refl _ _).alloc (Nat.le_refl _) _).alloc (by simp) _).drew
attribute [local go_sem ↓] Go.wp_at_zero Go.wp_at_succ
set_option maxRecDepth 100000 in
set_option maxHeartbeats 4000000 in
theorem RingLabels_walk (w : World) (a b c d : UInt64) :
    Calls Try.prog 6 #[.agg #[U a, U b], .agg #[U c, U d]] w fun e w' => e = .returned (.bool true) ∧ Below w.heap.size w w' := by
  have q1 := run_eql_label
  have q2 := guard_label
  have t1 : (dblLo a b == dblLo c d && dblHi a b == dblHi c d) = (a == c && b == d) := dbl_eq a b c d
  have t2 : xorW (dblLo a b) (dblLo c d) = dblLo (xorW a c) (xorW b d) := lo_xor a b c d
  have t3 : xorW (dblHi a b) (dblHi c d) = dblHi (xorW a c) (xorW b d) := hi_xor a b c d
  go_enter Try.func6, Try.ntmps6
  go_wp2_with fail
  go_region_held3 (fun w' => w'.cell? ⟨w.heap.size, 0, none⟩ = some (U a) ∧ w'.cell? ⟨w.heap.size, 1, none⟩ = some (U b) ∧ w'.cell? ⟨w.heap.size + 1, 0, none⟩ = some (U c) ∧ w'.cell? ⟨w.heap.size + 1, 1, none⟩ = some (U d) ∧ w.heap.size + 1 < w'.heap.size ∧ Below w.heap.size w w') (first | exact lab_keep hb1 (by assumption) | exact lab_start _ _ _ _ _ _)
    (first
      | (go_at_call 9; refine (awake_any _).mono ?_; rintro e w1 ⟨rfl, hb1⟩)
      | (go_at_call 15; refine (Xor_any _ _ _ _ _).mono ?_; rintro e w1 ⟨rfl, hb1⟩)
      | (go_at_call 16; refine (rXor_any _ _ _ _ _).mono ?_; rintro e w1 ⟨rfl, hb1⟩)
      | (go_at_call 17; refine (Double_any _ _ _).mono ?_; rintro e w1 ⟨rfl, hb1⟩)
      | (go_at_call 18; refine (rDouble_any' _ _ _).mono ?_; rintro e w1 ⟨rfl, hb1⟩))
  go_wp2
  go_ret
  exact ⟨rfl, lab_below (by assumption)⟩
end Go.Proofs.Ytpjhbdhpphgldaa
