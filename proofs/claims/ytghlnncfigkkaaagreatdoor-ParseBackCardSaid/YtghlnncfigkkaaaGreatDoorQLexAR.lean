/-
  Walks of the document's Letter and Digit.
-/
import Derived.Test.YtghlnncfigkkaaaGreatDoorQLexA
namespace Go.Proofs.YtghlnncfigkkaaaGreatDoor
set_option linter.unusedVariables false
set_option linter.unusedSimpArgs false
open Go.RowKit
theorem rLetter_any (c : UInt8) (w : World) : Calls Tryz.prog 137 #[V8 c] w fun e w' => e = .returned (.bool (lowB c)) ∧ w = w' := by
 have hb := c.toNat_lt
 go_enter Tryz.func137, Tryz.ntmps137
 go_wp2
 all_goals
  go_ret
  exact ⟨by first | (unfold lowB; simp [*]; done) | (unfold lowB; simp [*]; omega), rfl⟩
theorem rDigit_any (c : UInt8) (w : World) : Calls Tryz.prog 135 #[V8 c] w fun e w' => e = .returned (.bool (digB c)) ∧ w = w' := by
 have hb := c.toNat_lt
 go_enter Tryz.func135, Tryz.ntmps135
 go_wp2
 all_goals
  go_ret
  exact ⟨by first | (unfold digB; simp [*]; done) | (unfold digB; simp [*]; omega), rfl⟩
end Go.Proofs.YtghlnncfigkkaaaGreatDoor
