/- NvmeLogs: runs. -/
import Derived.Test.YtcghikpogkigcaaGreatDoorAbLP
set_option linter.all false
set_option linter.unusedSectionVars false
set_option linter.unusedVariables false
set_option linter.unusedSimpArgs false
namespace Go.Proofs.YtcghikpogkigcaaGreatDoor.L
open Go Go.Ab Go.Proofs Go.RowKit
set_option maxRecDepth 1000000
theorem rQ_67 : (List.range' 479 7).all runQ = true := by kernel_rfl
theorem rQ_74 : (List.range' 528 7).all runQ = true := by kernel_rfl
theorem rQ_78 : (List.range' 559 7).all runQ = true := by kernel_rfl
theorem rQ_79 : (List.range' 566 7).all runQ = true := by kernel_rfl
theorem rQ_86 : (List.range' 615 7).all runQ = true := by kernel_rfl
theorem rQ_89 : (List.range' 636 7).all runQ = true := by kernel_rfl
theorem rQ_96 : (List.range' 691 7).all runQ = true := by kernel_rfl
theorem rQ_97 : (List.range' 698 7).all runQ = true := by kernel_rfl
theorem rQ_109 : (List.range' 785 7).all runQ = true := by kernel_rfl
theorem rT4_1 (C : Nat) : (List.range' 20 5).all (runT (.slice (some ⟨9, 0, none⟩) 4 C) (lc 4)) = true := by kernel_rfl
theorem rT7_9 (C : Nat) : (List.range' 170 3).all (runT (.slice (some ⟨9, 0, none⟩) 7 C) (lc 7)) = true := by kernel_rfl
theorem rT2_0 (C : Nat) : (List.range' 0 3).all (runT (.slice (some ⟨9, 0, none⟩) 2 C) (lc 2)) = true := by kernel_rfl
theorem rX3_0 (C : Nat) : (List.range' 9 16).all (runX (.slice (some ⟨9, 0, none⟩) 3 C) (lc 3)) = true := by kernel_rfl
theorem rC_2 (C : Nat) : runC (.slice (some ⟨9, 0, none⟩) 2 C) (lc 2) = true := by kernel_rfl
theorem rC_3 (C : Nat) : runC (.slice (some ⟨9, 0, none⟩) 3 C) (lc 3) = true := by kernel_rfl
end Go.Proofs.YtcghikpogkigcaaGreatDoor.L
