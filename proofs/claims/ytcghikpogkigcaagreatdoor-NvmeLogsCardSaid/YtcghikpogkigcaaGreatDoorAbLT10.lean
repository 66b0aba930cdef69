/- NvmeLogs: runs. -/
import Derived.Test.YtcghikpogkigcaaGreatDoorAbLP
set_option linter.all false
set_option linter.unusedSectionVars false
set_option linter.unusedVariables false
set_option linter.unusedSimpArgs false
namespace Go.Proofs.YtcghikpogkigcaaGreatDoor.L
open Go Go.Ab Go.Proofs Go.RowKit
set_option maxRecDepth 1000000
theorem rQ_134 : (List.range' 976 7).all runQ = true := by kernel_rfl
theorem rQ_90 : (List.range' 643 9).all runQ = true := by kernel_rfl
theorem rQ_92 : (List.range' 659 11).all runQ = true := by kernel_rfl
theorem rQ_112 : (List.range' 806 9).all runQ = true := by kernel_rfl
theorem rQ_127 : (List.range' 919 9).all runQ = true := by kernel_rfl
theorem rQ_70 : (List.range' 500 7).all runQ = true := by kernel_rfl
theorem rQ_87 : (List.range' 622 7).all runQ = true := by kernel_rfl
theorem rQ_42 : (List.range' 298 7).all runQ = true := by kernel_rfl
theorem rQ_49 : (List.range' 348 7).all runQ = true := by kernel_rfl
end Go.Proofs.YtcghikpogkigcaaGreatDoor.L
