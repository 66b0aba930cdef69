/- NvmePairs: some of its runs. -/
import Derived.Test.YtainaihfbljjoaaGreatDoorAbPRun
set_option linter.all false
set_option linter.unusedSectionVars false
set_option linter.unusedVariables false
set_option linter.unusedSimpArgs false
namespace Go.Proofs.YtainaihfbljjoaaGreatDoor.R
open Go Go.Ab Go.Proofs Go.RowKit
set_option maxRecDepth 1000000
theorem run2_0_0 : run 2 0 0 = true := by kernel_rfl
theorem run2_0_16 : run 2 0 16 = true := by kernel_rfl
theorem run2_1_0 : run 2 1 0 = true := by kernel_rfl
theorem run2_1_16 : run 2 1 16 = true := by kernel_rfl
theorem run2_2_0 : run 2 2 0 = true := by kernel_rfl
theorem run2_2_16 : run 2 2 16 = true := by kernel_rfl
theorem run2_3_0 : run 2 3 0 = true := by kernel_rfl
theorem run2_3_16 : run 2 3 16 = true := by kernel_rfl
end Go.Proofs.YtainaihfbljjoaaGreatDoor.R
