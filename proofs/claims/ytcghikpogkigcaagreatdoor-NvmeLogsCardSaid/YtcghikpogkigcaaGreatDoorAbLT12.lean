/- NvmeLogs: runs. -/
import Derived.Test.YtcghikpogkigcaaGreatDoorAbLP
set_option linter.all false
set_option linter.unusedSectionVars false
set_option linter.unusedVariables false
set_option linter.unusedSimpArgs false
namespace Go.Proofs.YtcghikpogkigcaaGreatDoor.L
open Go Go.Ab Go.Proofs Go.RowKit
set_option maxRecDepth 1000000
theorem rQ_4 : (List.range' 29 7).all runQ = true := by kernel_rfl
theorem rQ_2 : (List.range' 15 7).all runQ = true := by kernel_rfl
theorem rQ_7 : (List.range' 50 7).all runQ = true := by kernel_rfl
theorem rQ_10 : (List.range' 71 7).all runQ = true := by kernel_rfl
theorem rQ_15 : (List.range' 106 7).all runQ = true := by kernel_rfl
theorem rQ_16 : (List.range' 113 7).all runQ = true := by kernel_rfl
theorem rQ_17 : (List.range' 120 7).all runQ = true := by kernel_rfl
theorem rQ_19 : (List.range' 134 7).all runQ = true := by kernel_rfl
theorem rQ_35 : (List.range' 249 7).all runQ = true := by kernel_rfl
theorem rQ_37 : (List.range' 263 7).all runQ = true := by kernel_rfl
theorem rC_5 (C : Nat) : runC (.slice (some ⟨9, 0, none⟩) 5 C) (lc 5) = true := by kernel_rfl
end Go.Proofs.YtcghikpogkigcaaGreatDoor.L
