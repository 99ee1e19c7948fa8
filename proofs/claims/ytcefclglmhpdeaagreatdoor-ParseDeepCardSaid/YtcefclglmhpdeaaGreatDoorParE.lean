/-
  Walks of the parser's levels: call, sign, post.
-/
import Derived.Test.YtcefclglmhpdeaaGreatDoorParD
namespace Go.Proofs.YtcefclglmhpdeaaGreatDoor
set_option linter.unusedVariables false
set_option linter.unusedSimpArgs false
open Go.RowKit
attribute [local go_sem ↓] tok_field3 tok_field0
theorem call_cases (t : Tok) : callP t = (0, 0) ∨ callP t = (10, 1) ∨ callP t = (11, 1) ∨ callP t = (12, 1) ∨ callP t = (13, 2) ∨ callP t = (14, 3) := by
  unfold callP
  split
  · simp
  split
  · simp
  split
  · simp
  split
  · simp
  split
  · simp
  split <;> simp
theorem sRelu : tRelu.toList = [114, 101, 108, 117] := by unfold tRelu; rw [ByteArray.toList_eq]
theorem sSum : tSum.toList = [115, 117, 109] := by unfold tSum; rw [ByteArray.toList_eq]
theorem sArgmax : tArgmax.toList = [97, 114, 103, 109, 97, 120] := by unfold tArgmax; rw [ByteArray.toList_eq]
theorem sMax : tMax.toList = [109, 97, 120] := by unfold tMax; rw [ByteArray.toList_eq]
theorem sMux : tMux.toList = [109, 117, 120] := by unfold tMux; rw [ByteArray.toList_eq]
set_option maxRecDepth 100000 in
set_option maxHeartbeats 4000000 in
theorem call_any (t : Tok) (w : World) :
    Calls Tryz.prog 111 #[.agg #[.int .i64 t.kind, .string t.text, .int .u64 t.num, .int .i64 t.pos]] w fun e w' => e = .returned (.tuple #[.int .i64 ((callP t).1 : Nat), .int .i64 ((callP t).2 : Nat)]) ∧ Below w.heap.size w w' := by
  obtain ⟨kd, tx, nm, ps⟩ := t
  obtain ⟨k, hk⟩ : ∃ k, k = callP ⟨kd, tx, nm, ps⟩ := ⟨_, rfl⟩
  rw [← hk]
  have HK := Lib.hid hk
  clear hk
  have e1 : ((kd : Int) != 4) = (kd != 4) := by rw [Bool.eq_iff_iff, bne_iff_ne, bne_iff_ne]; omega
  go_enter Tryz.func111, Tryz.ntmps111
  go_wp2
  all_goals
    go_ret2
    exact ⟨by rw [HK.out]; unfold callP; simp [sRelu, sSum, sArgmax, sMax, sMux, *], below_alloc (Below.refl _ _) _⟩
end Go.Proofs.YtcefclglmhpdeaaGreatDoor
