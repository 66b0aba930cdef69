/- NvmeLogs: runs. -/
import Derived.Test.YtcghikpogkigcaaGreatDoorAbLP
set_option linter.all false
set_option linter.unusedSectionVars false
set_option linter.unusedVariables false
set_option linter.unusedSimpArgs false
namespace Go.Proofs.YtcghikpogkigcaaGreatDoor.L
open Go Go.Ab Go.Proofs Go.RowKit
set_option maxRecDepth 1000000
theorem rQ_111 : (List.range' 799 7).all runQ = true := by kernel_rfl
theorem rQ_118 : (List.range' 854 7).all runQ = true := by kernel_rfl
theorem rQ_122 : (List.range' 884 7).all runQ = true := by kernel_rfl
theorem rQ_126 : (List.range' 912 7).all runQ = true := by kernel_rfl
theorem rQ_95 : (List.range' 684 7).all runQ = true := by kernel_rfl
theorem rQ_125 : (List.range' 905 7).all runQ = true := by kernel_rfl
theorem rQ_14 : (List.range' 99 7).all runQ = true := by kernel_rfl
theorem rQ_116 : (List.range' 840 7).all runQ = true := by kernel_rfl
theorem rQ_33 : (List.range' 235 7).all runQ = true := by kernel_rfl
theorem pT_1 : (List.range' 1 2).all (spT 1) = true := by kernel_rfl
theorem pT_2 : (List.range' 3 6).all (spT 2) = true := by kernel_rfl
theorem pT_3 : (List.range' 9 16).all (spT 3) = true := by kernel_rfl
theorem pT_4 : (List.range' 25 30).all (spT 4) = true := by kernel_rfl
theorem pT_5 : (List.range' 55 48).all (spT 5) = true := by kernel_rfl
theorem pT_6 : (List.range' 103 70).all (spT 6) = true := by kernel_rfl
theorem pT_7 : (List.range' 173 96).all (spT 7) = true := by kernel_rfl
theorem rC_4 (C : Nat) : runC (.slice (some ⟨9, 0, none⟩) 4 C) (lc 4) = true := by kernel_rfl
end Go.Proofs.YtcghikpogkigcaaGreatDoor.L
