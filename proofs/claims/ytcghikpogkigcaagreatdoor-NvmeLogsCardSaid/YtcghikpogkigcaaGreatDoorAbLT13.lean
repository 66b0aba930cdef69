/- NvmeLogs: runs. -/
import Derived.Test.YtcghikpogkigcaaGreatDoorAbLP
set_option linter.all false
set_option linter.unusedSectionVars false
set_option linter.unusedVariables false
set_option linter.unusedSimpArgs false
namespace Go.Proofs.YtcghikpogkigcaaGreatDoor.L
open Go Go.Ab Go.Proofs Go.RowKit
set_option maxRecDepth 1000000
theorem rQ_39 : (List.range' 277 7).all runQ = true := by kernel_rfl
theorem rQ_40 : (List.range' 284 7).all runQ = true := by kernel_rfl
theorem rQ_48 : (List.range' 341 7).all runQ = true := by kernel_rfl
theorem rQ_56 : (List.range' 397 7).all runQ = true := by kernel_rfl
theorem rQ_59 : (List.range' 418 7).all runQ = true := by kernel_rfl
theorem rQ_68 : (List.range' 486 7).all runQ = true := by kernel_rfl
theorem rQ_99 : (List.range' 712 7).all runQ = true := by kernel_rfl
theorem rQ_105 : (List.range' 757 7).all runQ = true := by kernel_rfl
theorem rQ_107 : (List.range' 771 7).all runQ = true := by kernel_rfl
theorem rQ_110 : (List.range' 792 7).all runQ = true := by kernel_rfl
theorem rC_6 (C : Nat) : runC (.slice (some ⟨9, 0, none⟩) 6 C) (lc 6) = true := by kernel_rfl
end Go.Proofs.YtcghikpogkigcaaGreatDoor.L
