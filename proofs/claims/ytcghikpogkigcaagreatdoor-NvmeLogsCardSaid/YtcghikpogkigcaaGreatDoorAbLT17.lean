/- NvmeLogs: runs. -/
import Derived.Test.YtcghikpogkigcaaGreatDoorAbLP
set_option linter.all false
set_option linter.unusedSectionVars false
set_option linter.unusedVariables false
set_option linter.unusedSimpArgs false
namespace Go.Proofs.YtcghikpogkigcaaGreatDoor.L
open Go Go.Ab Go.Proofs Go.RowKit
set_option maxRecDepth 1000000
theorem rQ_26 : (List.range' 183 7).all runQ = true := by kernel_rfl
theorem rQ_28 : (List.range' 197 7).all runQ = true := by kernel_rfl
theorem rQ_44 : (List.range' 312 7).all runQ = true := by kernel_rfl
theorem rQ_51 : (List.range' 362 7).all runQ = true := by kernel_rfl
theorem rQ_73 : (List.range' 521 7).all runQ = true := by kernel_rfl
theorem rQ_83 : (List.range' 594 7).all runQ = true := by kernel_rfl
theorem rQ_91 : (List.range' 652 7).all runQ = true := by kernel_rfl
theorem rQ_3 : (List.range' 22 7).all runQ = true := by kernel_rfl
theorem rQ_23 : (List.range' 162 7).all runQ = true := by kernel_rfl
theorem rQ_113 : (List.range' 815 10).all runQ = true := by kernel_rfl
theorem pQ_8 : (List.range' 1054 3).all (spQ 8) = true := by kernel_rfl
theorem pX_0 : (List.range' 0 200).all spX = true := by kernel_rfl
theorem pX_1 : (List.range' 200 195).all spX = true := by kernel_rfl
theorem pXX_0 : (List.range' 0 200).all spXX = true := by kernel_rfl
theorem rC_8 (m C : Nat) : runC (.slice (some ⟨9, 0, none⟩) (m + 8) C) (lc 8) = true := by kernel_rfl
theorem rA_N (C : Nat) : runA (.slice none 0 0) [] = true := by kernel_rfl
end Go.Proofs.YtcghikpogkigcaaGreatDoor.L
