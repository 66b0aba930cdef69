/- NvmePairs: some of its runs. -/
import Derived.Test.YtainaihfbljjoaaGreatDoorAbPRun
set_option linter.all false
set_option linter.unusedSectionVars false
set_option linter.unusedVariables false
set_option linter.unusedSimpArgs false
namespace Go.Proofs.YtainaihfbljjoaaGreatDoor.R
open Go Go.Ab Go.Proofs Go.RowKit
set_option maxRecDepth 1000000
theorem run0_0_0 : run 0 0 0 = true := by kernel_rfl
theorem run0_0_16 : run 0 0 16 = true := by kernel_rfl
theorem run0_1_0 : run 0 1 0 = true := by kernel_rfl
theorem run0_1_16 : run 0 1 16 = true := by kernel_rfl
theorem run0_2_0 : run 0 2 0 = true := by kernel_rfl
theorem run0_2_16 : run 0 2 16 = true := by kernel_rfl
theorem run0_3_0 : run 0 3 0 = true := by kernel_rfl
theorem run0_3_16 : run 0 3 16 = true := by kernel_rfl
theorem run0_4_0 : run 0 4 0 = true := by kernel_rfl
theorem run0_4_16 : run 0 4 16 = true := by kernel_rfl
theorem run0_5_0 : run 0 5 0 = true := by kernel_rfl
theorem run0_5_16 : run 0 5 16 = true := by kernel_rfl
theorem run1_0_0 : run 1 0 0 = true := by kernel_rfl
theorem run1_0_16 : run 1 0 16 = true := by kernel_rfl
theorem run1_1_0 : run 1 1 0 = true := by kernel_rfl
theorem run1_1_16 : run 1 1 16 = true := by kernel_rfl
theorem run1_2_0 : run 1 2 0 = true := by kernel_rfl
theorem run1_2_16 : run 1 2 16 = true := by kernel_rfl
theorem run1_3_0 : run 1 3 0 = true := by kernel_rfl
theorem run1_3_16 : run 1 3 16 = true := by kernel_rfl
theorem run1_4_0 : run 1 4 0 = true := by kernel_rfl
theorem run1_4_16 : run 1 4 16 = true := by kernel_rfl
end Go.Proofs.YtainaihfbljjoaaGreatDoor.R
