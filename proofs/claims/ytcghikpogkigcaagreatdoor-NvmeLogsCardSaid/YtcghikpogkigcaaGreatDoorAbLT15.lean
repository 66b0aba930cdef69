/- NvmeLogs: runs. -/
import Derived.Test.YtcghikpogkigcaaGreatDoorAbLP
set_option linter.all false
set_option linter.unusedSectionVars false
set_option linter.unusedVariables false
set_option linter.unusedSimpArgs false
namespace Go.Proofs.YtcghikpogkigcaaGreatDoor.L
open Go Go.Ab Go.Proofs Go.RowKit
set_option maxRecDepth 1000000
theorem rQ_81 : (List.range' 580 7).all runQ = true := by kernel_rfl
theorem rQ_88 : (List.range' 629 7).all runQ = true := by kernel_rfl
theorem rQ_76 : (List.range' 545 7).all runQ = true := by kernel_rfl
theorem rQ_9 : (List.range' 64 7).all runQ = true := by kernel_rfl
theorem rQ_11 : (List.range' 78 7).all runQ = true := by kernel_rfl
theorem rQ_13 : (List.range' 92 7).all runQ = true := by kernel_rfl
theorem rQ_18 : (List.range' 127 7).all runQ = true := by kernel_rfl
theorem rQ_22 : (List.range' 155 7).all runQ = true := by kernel_rfl
theorem rQ_27 : (List.range' 190 7).all runQ = true := by kernel_rfl
theorem rQ_60 : (List.range' 425 7).all runQ = true := by kernel_rfl
theorem pQ_1 : (List.range' 225 224).all (spQ 1) = true := by kernel_rfl
theorem pQ_2 : (List.range' 449 214).all (spQ 2) = true := by kernel_rfl
theorem pQ_3 : (List.range' 663 158).all (spQ 3) = true := by kernel_rfl
theorem rE0_0 (C : Nat) : runE0 (.slice (some ⟨9, 0, none⟩) 0 C) (lc 0) = true := by kernel_rfl
end Go.Proofs.YtcghikpogkigcaaGreatDoor.L
