/- NvmeLogs: runs. -/
import Derived.Test.YtcghikpogkigcaaGreatDoorAbLP
set_option linter.all false
set_option linter.unusedSectionVars false
set_option linter.unusedVariables false
set_option linter.unusedSimpArgs false
namespace Go.Proofs.YtcghikpogkigcaaGreatDoor.L
open Go Go.Ab Go.Proofs Go.RowKit
set_option maxRecDepth 1000000
theorem rQ_69 : (List.range' 493 7).all runQ = true := by kernel_rfl
theorem rQ_103 : (List.range' 743 7).all runQ = true := by kernel_rfl
theorem rQ_117 : (List.range' 847 7).all runQ = true := by kernel_rfl
theorem rQ_46 : (List.range' 327 7).all runQ = true := by kernel_rfl
theorem rQ_77 : (List.range' 552 7).all runQ = true := by kernel_rfl
theorem rQ_121 : (List.range' 877 7).all runQ = true := by kernel_rfl
theorem rQ_133 : (List.range' 969 7).all runQ = true := by kernel_rfl
theorem rQ_135 : (List.range' 983 7).all runQ = true := by kernel_rfl
theorem rQ_108 : (List.range' 778 7).all runQ = true := by kernel_rfl
theorem rT6_5 (C : Nat) : (List.range' 96 7).all (runT (.slice (some ⟨9, 0, none⟩) 6 C) (lc 6)) = true := by kernel_rfl
end Go.Proofs.YtcghikpogkigcaaGreatDoor.L
