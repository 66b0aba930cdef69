/- NvmeLogs: runs. -/
import Derived.Test.YtcghikpogkigcaaGreatDoorAbLP
set_option linter.all false
set_option linter.unusedSectionVars false
set_option linter.unusedVariables false
set_option linter.unusedSimpArgs false
namespace Go.Proofs.YtcghikpogkigcaaGreatDoor.L
open Go Go.Ab Go.Proofs Go.RowKit
set_option maxRecDepth 1000000
theorem rQ_141 : (List.range' 1036 12).all runQ = true := by kernel_rfl
theorem rQ_64 : (List.range' 458 7).all runQ = true := by kernel_rfl
theorem rQ_129 : (List.range' 939 7).all runQ = true := by kernel_rfl
theorem rQ_32 : (List.range' 228 7).all runQ = true := by kernel_rfl
theorem rQ_93 : (List.range' 670 7).all runQ = true := by kernel_rfl
theorem rQ_120 : (List.range' 871 6).all runQ = true := by kernel_rfl
theorem rQ_132 : (List.range' 963 6).all runQ = true := by kernel_rfl
theorem pXX_1 : (List.range' 200 25).all spXX = true := by kernel_rfl
theorem pM_0 : (List.range' 0 200).all spM = true := by kernel_rfl
theorem pM_1 : (List.range' 200 25).all spM = true := by kernel_rfl
theorem rE0_1 (C : Nat) : runE0 (.slice (some ⟨9, 0, none⟩) 1 C) (lc 1) = true := by kernel_rfl
theorem rE0_2 (C : Nat) : runE0 (.slice (some ⟨9, 0, none⟩) 2 C) (lc 2) = true := by kernel_rfl
theorem rE0_3 (C : Nat) : runE0 (.slice (some ⟨9, 0, none⟩) 3 C) (lc 3) = true := by kernel_rfl
theorem rE0_4 (C : Nat) : runE0 (.slice (some ⟨9, 0, none⟩) 4 C) (lc 4) = true := by kernel_rfl
theorem rD_N (C : Nat) : runD (.slice none 0 0) [] = true := by kernel_rfl
end Go.Proofs.YtcghikpogkigcaaGreatDoor.L
