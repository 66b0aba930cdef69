/- NvmeLogs: runs. -/
import Derived.Test.YtcghikpogkigcaaGreatDoorAbLP
set_option linter.all false
set_option linter.unusedSectionVars false
set_option linter.unusedVariables false
set_option linter.unusedSimpArgs false
namespace Go.Proofs.YtcghikpogkigcaaGreatDoor.L
open Go Go.Ab Go.Proofs Go.RowKit
set_option maxRecDepth 1000000
theorem rQ_62 : (List.range' 440 7).all runQ = true := by kernel_rfl
theorem rQ_6 : (List.range' 43 7).all runQ = true := by kernel_rfl
theorem rQ_29 : (List.range' 204 7).all runQ = true := by kernel_rfl
theorem rQ_30 : (List.range' 211 7).all runQ = true := by kernel_rfl
theorem rQ_53 : (List.range' 376 7).all runQ = true := by kernel_rfl
theorem rQ_5 : (List.range' 36 7).all runQ = true := by kernel_rfl
theorem rQ_8 : (List.range' 57 7).all runQ = true := by kernel_rfl
theorem rQ_12 : (List.range' 85 7).all runQ = true := by kernel_rfl
theorem rQ_24 : (List.range' 169 7).all runQ = true := by kernel_rfl
theorem rQ_25 : (List.range' 176 7).all runQ = true := by kernel_rfl
theorem pQ_4 : (List.range' 821 110).all (spQ 4) = true := by kernel_rfl
theorem pQ_5 : (List.range' 931 70).all (spQ 5) = true := by kernel_rfl
theorem pQ_6 : (List.range' 1001 38).all (spQ 6) = true := by kernel_rfl
theorem pQ_7 : (List.range' 1039 15).all (spQ 7) = true := by kernel_rfl
theorem rC_7 (C : Nat) : runC (.slice (some ⟨9, 0, none⟩) 7 C) (lc 7) = true := by kernel_rfl
end Go.Proofs.YtcghikpogkigcaaGreatDoor.L
