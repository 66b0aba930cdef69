/- NvmeLogs: runs. -/
import Derived.Test.YtcghikpogkigcaaGreatDoorAbLP
set_option linter.all false
set_option linter.unusedSectionVars false
set_option linter.unusedVariables false
set_option linter.unusedSimpArgs false
namespace Go.Proofs.YtcghikpogkigcaaGreatDoor.L
open Go Go.Ab Go.Proofs Go.RowKit
set_option maxRecDepth 1000000
theorem rQ_65 : (List.range' 465 7).all runQ = true := by kernel_rfl
theorem rQ_94 : (List.range' 677 7).all runQ = true := by kernel_rfl
theorem rQ_102 : (List.range' 736 7).all runQ = true := by kernel_rfl
theorem rQ_115 : (List.range' 833 7).all runQ = true := by kernel_rfl
theorem rQ_124 : (List.range' 898 7).all runQ = true := by kernel_rfl
theorem rQ_130 : (List.range' 946 7).all runQ = true := by kernel_rfl
theorem rQ_139 : (List.range' 1021 7).all runQ = true := by kernel_rfl
theorem rT8_9 (m C : Nat) : (List.range' 170 20).all (runT (.slice (some ⟨9, 0, none⟩) (m + 8) C) (lc 8)) = true := by kernel_rfl
theorem rT7_8 (C : Nat) : (List.range' 151 19).all (runT (.slice (some ⟨9, 0, none⟩) 7 C) (lc 7)) = true := by kernel_rfl
theorem rX5_0 (C : Nat) : (List.range' 55 48).all (runX (.slice (some ⟨9, 0, none⟩) 5 C) (lc 5)) = true := by kernel_rfl
theorem rX2_0 (C : Nat) : (List.range' 3 6).all (runX (.slice (some ⟨9, 0, none⟩) 2 C) (lc 2)) = true := by kernel_rfl
theorem rX0_0 (C : Nat) : (List.range' 0 1).all (runX (.slice (some ⟨9, 0, none⟩) 0 C) (lc 0)) = true := by kernel_rfl
end Go.Proofs.YtcghikpogkigcaaGreatDoor.L
