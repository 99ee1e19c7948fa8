/-
  ParseDeep's texts computed, part 0. Printed by gen_deep.py.
-/
import Derived.Test.YtcefclglmhpdeaaGreatDoorDeepA
namespace Go.Proofs.YtcefclglmhpdeaaGreatDoor
set_option linter.unusedVariables false
set_option linter.unusedSimpArgs false
open Go.RowKit
theorem deep_0_0 : deepOk 0 0 = true := by kernel_rfl
theorem deep_0_1 : deepOk 0 1 = true := by kernel_rfl
theorem deep_0_2 : deepOk 0 2 = true := by kernel_rfl
theorem deep_1_0 : deepOk 1 0 = true := by kernel_rfl
theorem deep_1_1 : deepOk 1 1 = true := by kernel_rfl
theorem deep_1_2 : deepOk 1 2 = true := by kernel_rfl
theorem deep_2_0 : deepOk 2 0 = true := by kernel_rfl
theorem deep_2_1 : deepOk 2 1 = true := by kernel_rfl
theorem deep_2_2 : deepOk 2 2 = true := by kernel_rfl
theorem deep_3_0 : deepOk 3 0 = true := by kernel_rfl
theorem deep_3_1 : deepOk 3 1 = true := by kernel_rfl
theorem deep_3_2 : deepOk 3 2 = true := by kernel_rfl
theorem deep_4_0 : deepOk 4 0 = true := by kernel_rfl
theorem deep_4_1 : deepOk 4 1 = true := by kernel_rfl
theorem deep_4_2 : deepOk 4 2 = true := by kernel_rfl
theorem deep_5_0 : deepOk 5 0 = true := by kernel_rfl
theorem deep_5_1 : deepOk 5 1 = true := by kernel_rfl
theorem deep_5_2 : deepOk 5 2 = true := by kernel_rfl
theorem deep_6_0 : deepOk 6 0 = true := by kernel_rfl
theorem deep_6_1 : deepOk 6 1 = true := by kernel_rfl
theorem deep_6_2 : deepOk 6 2 = true := by kernel_rfl
theorem deep_7_0 : deepOk 7 0 = true := by kernel_rfl
theorem deep_7_1 : deepOk 7 1 = true := by kernel_rfl
theorem deep_7_2 : deepOk 7 2 = true := by kernel_rfl
theorem deep_8_0 : deepOk 8 0 = true := by kernel_rfl
theorem deep_8_1 : deepOk 8 1 = true := by kernel_rfl
theorem deep_8_2 : deepOk 8 2 = true := by kernel_rfl
theorem deep_9_0 : deepOk 9 0 = true := by kernel_rfl
theorem deep_9_1 : deepOk 9 1 = true := by kernel_rfl
theorem deep_9_2 : deepOk 9 2 = true := by kernel_rfl
theorem deep_part0 : ((List.range 10).all fun n => (List.range 3).all fun how => deepOk (0 + n) how) = true := by
  simp only [List.all_eq_true, List.mem_range]
  intro n hn how hh
  have : n = 0 ∨ n = 1 ∨ n = 2 ∨ n = 3 ∨ n = 4 ∨ n = 5 ∨ n = 6 ∨ n = 7 ∨ n = 8 ∨ n = 9 := by omega
  have h3 : how = 0 ∨ how = 1 ∨ how = 2 := by omega
  rcases this with rfl | rfl | rfl | rfl | rfl | rfl | rfl | rfl | rfl | rfl <;> rcases h3 with rfl | rfl | rfl
  · exact deep_0_0
  · exact deep_0_1
  · exact deep_0_2
  · exact deep_1_0
  · exact deep_1_1
  · exact deep_1_2
  · exact deep_2_0
  · exact deep_2_1
  · exact deep_2_2
  · exact deep_3_0
  · exact deep_3_1
  · exact deep_3_2
  · exact deep_4_0
  · exact deep_4_1
  · exact deep_4_2
  · exact deep_5_0
  · exact deep_5_1
  · exact deep_5_2
  · exact deep_6_0
  · exact deep_6_1
  · exact deep_6_2
  · exact deep_7_0
  · exact deep_7_1
  · exact deep_7_2
  · exact deep_8_0
  · exact deep_8_1
  · exact deep_8_2
  · exact deep_9_0
  · exact deep_9_1
  · exact deep_9_2
theorem deep_10_0 : deepOk 10 0 = true := by kernel_rfl
theorem deep_10_1 : deepOk 10 1 = true := by kernel_rfl
theorem deep_10_2 : deepOk 10 2 = true := by kernel_rfl
theorem deep_11_0 : deepOk 11 0 = true := by kernel_rfl
theorem deep_11_1 : deepOk 11 1 = true := by kernel_rfl
theorem deep_11_2 : deepOk 11 2 = true := by kernel_rfl
theorem deep_12_0 : deepOk 12 0 = true := by kernel_rfl
theorem deep_12_1 : deepOk 12 1 = true := by kernel_rfl
theorem deep_12_2 : deepOk 12 2 = true := by kernel_rfl
theorem deep_13_0 : deepOk 13 0 = true := by kernel_rfl
theorem deep_13_1 : deepOk 13 1 = true := by kernel_rfl
theorem deep_13_2 : deepOk 13 2 = true := by kernel_rfl
theorem deep_14_0 : deepOk 14 0 = true := by kernel_rfl
theorem deep_14_1 : deepOk 14 1 = true := by kernel_rfl
theorem deep_14_2 : deepOk 14 2 = true := by kernel_rfl
theorem deep_15_0 : deepOk 15 0 = true := by kernel_rfl
theorem deep_15_1 : deepOk 15 1 = true := by kernel_rfl
theorem deep_15_2 : deepOk 15 2 = true := by kernel_rfl
theorem deep_16_0 : deepOk 16 0 = true := by kernel_rfl
theorem deep_16_1 : deepOk 16 1 = true := by kernel_rfl
theorem deep_16_2 : deepOk 16 2 = true := by kernel_rfl
theorem deep_17_0 : deepOk 17 0 = true := by kernel_rfl
theorem deep_17_1 : deepOk 17 1 = true := by kernel_rfl
theorem deep_17_2 : deepOk 17 2 = true := by kernel_rfl
theorem deep_18_0 : deepOk 18 0 = true := by kernel_rfl
theorem deep_18_1 : deepOk 18 1 = true := by kernel_rfl
theorem deep_18_2 : deepOk 18 2 = true := by kernel_rfl
theorem deep_19_0 : deepOk 19 0 = true := by kernel_rfl
theorem deep_19_1 : deepOk 19 1 = true := by kernel_rfl
theorem deep_19_2 : deepOk 19 2 = true := by kernel_rfl
theorem deep_part1 : ((List.range 10).all fun n => (List.range 3).all fun how => deepOk (10 + n) how) = true := by
  simp only [List.all_eq_true, List.mem_range]
  intro n hn how hh
  have : n = 0 ∨ n = 1 ∨ n = 2 ∨ n = 3 ∨ n = 4 ∨ n = 5 ∨ n = 6 ∨ n = 7 ∨ n = 8 ∨ n = 9 := by omega
  have h3 : how = 0 ∨ how = 1 ∨ how = 2 := by omega
  rcases this with rfl | rfl | rfl | rfl | rfl | rfl | rfl | rfl | rfl | rfl <;> rcases h3 with rfl | rfl | rfl
  · exact deep_10_0
  · exact deep_10_1
  · exact deep_10_2
  · exact deep_11_0
  · exact deep_11_1
  · exact deep_11_2
  · exact deep_12_0
  · exact deep_12_1
  · exact deep_12_2
  · exact deep_13_0
  · exact deep_13_1
  · exact deep_13_2
  · exact deep_14_0
  · exact deep_14_1
  · exact deep_14_2
  · exact deep_15_0
  · exact deep_15_1
  · exact deep_15_2
  · exact deep_16_0
  · exact deep_16_1
  · exact deep_16_2
  · exact deep_17_0
  · exact deep_17_1
  · exact deep_17_2
  · exact deep_18_0
  · exact deep_18_1
  · exact deep_18_2
  · exact deep_19_0
  · exact deep_19_1
  · exact deep_19_2
theorem deep_20_0 : deepOk 20 0 = true := by kernel_rfl
theorem deep_20_1 : deepOk 20 1 = true := by kernel_rfl
theorem deep_20_2 : deepOk 20 2 = true := by kernel_rfl
theorem deep_21_0 : deepOk 21 0 = true := by kernel_rfl
theorem deep_21_1 : deepOk 21 1 = true := by kernel_rfl
theorem deep_21_2 : deepOk 21 2 = true := by kernel_rfl
theorem deep_22_0 : deepOk 22 0 = true := by kernel_rfl
theorem deep_22_1 : deepOk 22 1 = true := by kernel_rfl
theorem deep_22_2 : deepOk 22 2 = true := by kernel_rfl
theorem deep_23_0 : deepOk 23 0 = true := by kernel_rfl
theorem deep_23_1 : deepOk 23 1 = true := by kernel_rfl
theorem deep_23_2 : deepOk 23 2 = true := by kernel_rfl
theorem deep_24_0 : deepOk 24 0 = true := by kernel_rfl
theorem deep_24_1 : deepOk 24 1 = true := by kernel_rfl
theorem deep_24_2 : deepOk 24 2 = true := by kernel_rfl
theorem deep_25_0 : deepOk 25 0 = true := by kernel_rfl
theorem deep_25_1 : deepOk 25 1 = true := by kernel_rfl
theorem deep_25_2 : deepOk 25 2 = true := by kernel_rfl
theorem deep_26_0 : deepOk 26 0 = true := by kernel_rfl
theorem deep_26_1 : deepOk 26 1 = true := by kernel_rfl
theorem deep_26_2 : deepOk 26 2 = true := by kernel_rfl
theorem deep_27_0 : deepOk 27 0 = true := by kernel_rfl
theorem deep_27_1 : deepOk 27 1 = true := by kernel_rfl
theorem deep_27_2 : deepOk 27 2 = true := by kernel_rfl
theorem deep_28_0 : deepOk 28 0 = true := by kernel_rfl
theorem deep_28_1 : deepOk 28 1 = true := by kernel_rfl
theorem deep_28_2 : deepOk 28 2 = true := by kernel_rfl
theorem deep_29_0 : deepOk 29 0 = true := by kernel_rfl
theorem deep_29_1 : deepOk 29 1 = true := by kernel_rfl
theorem deep_29_2 : deepOk 29 2 = true := by kernel_rfl
theorem deep_part2 : ((List.range 10).all fun n => (List.range 3).all fun how => deepOk (20 + n) how) = true := by
  simp only [List.all_eq_true, List.mem_range]
  intro n hn how hh
  have : n = 0 ∨ n = 1 ∨ n = 2 ∨ n = 3 ∨ n = 4 ∨ n = 5 ∨ n = 6 ∨ n = 7 ∨ n = 8 ∨ n = 9 := by omega
  have h3 : how = 0 ∨ how = 1 ∨ how = 2 := by omega
  rcases this with rfl | rfl | rfl | rfl | rfl | rfl | rfl | rfl | rfl | rfl <;> rcases h3 with rfl | rfl | rfl
  · exact deep_20_0
  · exact deep_20_1
  · exact deep_20_2
  · exact deep_21_0
  · exact deep_21_1
  · exact deep_21_2
  · exact deep_22_0
  · exact deep_22_1
  · exact deep_22_2
  · exact deep_23_0
  · exact deep_23_1
  · exact deep_23_2
  · exact deep_24_0
  · exact deep_24_1
  · exact deep_24_2
  · exact deep_25_0
  · exact deep_25_1
  · exact deep_25_2
  · exact deep_26_0
  · exact deep_26_1
  · exact deep_26_2
  · exact deep_27_0
  · exact deep_27_1
  · exact deep_27_2
  · exact deep_28_0
  · exact deep_28_1
  · exact deep_28_2
  · exact deep_29_0
  · exact deep_29_1
  · exact deep_29_2
end Go.Proofs.YtcefclglmhpdeaaGreatDoor
