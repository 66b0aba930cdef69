/- NvmeLogs: runs. -/
import Derived.Test.YtcghikpogkigcaaGreatDoorAbLP
set_option linter.all false
set_option linter.unusedSectionVars false
set_option linter.unusedVariables false
set_option linter.unusedSimpArgs false
namespace Go.Proofs.YtcghikpogkigcaaGreatDoor.L
open Go Go.Ab Go.Proofs Go.RowKit
set_option maxRecDepth 1000000
theorem rQ_1 : (List.range' 8 7).all runQ = true := by kernel_rfl
theorem rQ_119 : (List.range' 861 10).all runQ = true := by kernel_rfl
theorem rQ_140 : (List.range' 1028 8).all runQ = true := by kernel_rfl
theorem rQ_114 : (List.range' 825 8).all runQ = true := by kernel_rfl
theorem rQ_20 : (List.range' 141 7).all runQ = true := by kernel_rfl
theorem rQ_41 : (List.range' 291 7).all runQ = true := by kernel_rfl
theorem rQ_57 : (List.range' 404 7).all runQ = true := by kernel_rfl
theorem rQ_21 : (List.range' 148 7).all runQ = true := by kernel_rfl
theorem rQ_58 : (List.range' 411 7).all runQ = true := by kernel_rfl
theorem rQ_71 : (List.range' 507 7).all runQ = true := by kernel_rfl
theorem pQ_0 : (List.range' 0 225).all (spQ 0) = true := by kernel_rfl
theorem rE0_N (C : Nat) : runE0 (.slice none 0 0) [] = true := by kernel_rfl
end Go.Proofs.YtcghikpogkigcaaGreatDoor.L
