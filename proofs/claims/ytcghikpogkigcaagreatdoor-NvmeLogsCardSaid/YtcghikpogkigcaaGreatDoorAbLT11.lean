/- NvmeLogs: runs. -/
import Derived.Test.YtcghikpogkigcaaGreatDoorAbLP
set_option linter.all false
set_option linter.unusedSectionVars false
set_option linter.unusedVariables false
set_option linter.unusedSimpArgs false
namespace Go.Proofs.YtcghikpogkigcaaGreatDoor.L
open Go Go.Ab Go.Proofs Go.RowKit
set_option maxRecDepth 1000000
theorem rQ_54 : (List.range' 383 7).all runQ = true := by kernel_rfl
theorem rQ_100 : (List.range' 719 7).all runQ = true := by kernel_rfl
theorem rQ_123 : (List.range' 891 7).all runQ = true := by kernel_rfl
theorem rQ_55 : (List.range' 390 7).all runQ = true := by kernel_rfl
theorem rQ_101 : (List.range' 726 10).all runQ = true := by kernel_rfl
theorem rQ_61 : (List.range' 432 8).all runQ = true := by kernel_rfl
theorem rQ_131 : (List.range' 953 10).all runQ = true := by kernel_rfl
theorem rQ_38 : (List.range' 270 7).all runQ = true := by kernel_rfl
theorem rQ_43 : (List.range' 305 7).all runQ = true := by kernel_rfl
end Go.Proofs.YtcghikpogkigcaaGreatDoor.L
