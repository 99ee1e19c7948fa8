/-
  ParseDeep's texts computed, part 3. Printed by gen_deep.py.
-/
import Derived.Test.YtcefclglmhpdeaaGreatDoorDeepA
namespace Go.Proofs.YtcefclglmhpdeaaGreatDoor
set_option linter.unusedVariables false
set_option linter.unusedSimpArgs false
open Go.RowKit
theorem deep_30_0 : deepOk 30 0 = true := by kernel_rfl
theorem deep_30_1 : deepOk 30 1 = true := by kernel_rfl
theorem deep_30_2 : deepOk 30 2 = true := by kernel_rfl
theorem deep_31_0 : deepOk 31 0 = true := by kernel_rfl
theorem deep_31_1 : deepOk 31 1 = true := by kernel_rfl
theorem deep_31_2 : deepOk 31 2 = true := by kernel_rfl
theorem deep_32_0 : deepOk 32 0 = true := by kernel_rfl
theorem deep_32_1 : deepOk 32 1 = true := by kernel_rfl
theorem deep_32_2 : deepOk 32 2 = true := by kernel_rfl
theorem deep_33_0 : deepOk 33 0 = true := by kernel_rfl
theorem deep_33_1 : deepOk 33 1 = true := by kernel_rfl
theorem deep_33_2 : deepOk 33 2 = true := by kernel_rfl
theorem deep_34_0 : deepOk 34 0 = true := by kernel_rfl
theorem deep_34_1 : deepOk 34 1 = true := by kernel_rfl
theorem deep_34_2 : deepOk 34 2 = true := by kernel_rfl
theorem deep_35_0 : deepOk 35 0 = true := by kernel_rfl
theorem deep_35_1 : deepOk 35 1 = true := by kernel_rfl
theorem deep_35_2 : deepOk 35 2 = true := by kernel_rfl
theorem deep_36_0 : deepOk 36 0 = true := by kernel_rfl
theorem deep_36_1 : deepOk 36 1 = true := by kernel_rfl
theorem deep_36_2 : deepOk 36 2 = true := by kernel_rfl
theorem deep_37_0 : deepOk 37 0 = true := by kernel_rfl
theorem deep_37_1 : deepOk 37 1 = true := by kernel_rfl
theorem deep_37_2 : deepOk 37 2 = true := by kernel_rfl
theorem deep_38_0 : deepOk 38 0 = true := by kernel_rfl
theorem deep_38_1 : deepOk 38 1 = true := by kernel_rfl
theorem deep_38_2 : deepOk 38 2 = true := by kernel_rfl
theorem deep_39_0 : deepOk 39 0 = true := by kernel_rfl
theorem deep_39_1 : deepOk 39 1 = true := by kernel_rfl
theorem deep_39_2 : deepOk 39 2 = true := by kernel_rfl
theorem deep_part3 : ((List.range 10).all fun n => (List.range 3).all fun how => deepOk (30 + n) how) = true := by
  simp only [List.all_eq_true, List.mem_range]
  intro n hn how hh
  have : n = 0 ∨ n = 1 ∨ n = 2 ∨ n = 3 ∨ n = 4 ∨ n = 5 ∨ n = 6 ∨ n = 7 ∨ n = 8 ∨ n = 9 := by omega
  have h3 : how = 0 ∨ how = 1 ∨ how = 2 := by omega
  rcases this with rfl | rfl | rfl | rfl | rfl | rfl | rfl | rfl | rfl | rfl <;> rcases h3 with rfl | rfl | rfl
  · exact deep_30_0
  · exact deep_30_1
  · exact deep_30_2
  · exact deep_31_0
  · exact deep_31_1
  · exact deep_31_2
  · exact deep_32_0
  · exact deep_32_1
  · exact deep_32_2
  · exact deep_33_0
  · exact deep_33_1
  · exact deep_33_2
  · exact deep_34_0
  · exact deep_34_1
  · exact deep_34_2
  · exact deep_35_0
  · exact deep_35_1
  · exact deep_35_2
  · exact deep_36_0
  · exact deep_36_1
  · exact deep_36_2
  · exact deep_37_0
  · exact deep_37_1
  · exact deep_37_2
  · exact deep_38_0
  · exact deep_38_1
  · exact deep_38_2
  · exact deep_39_0
  · exact deep_39_1
  · exact deep_39_2
theorem many_ok : manyOk = true := by kernel_rfl
theorem more_ok : moreOk = true := by kernel_rfl
end Go.Proofs.YtcefclglmhpdeaaGreatDoor
