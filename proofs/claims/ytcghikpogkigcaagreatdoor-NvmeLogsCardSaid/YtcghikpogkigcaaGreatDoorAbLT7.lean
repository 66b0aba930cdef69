/- NvmeLogs: runs. -/
import Derived.Test.YtcghikpogkigcaaGreatDoorAbLP
set_option linter.all false
set_option linter.unusedSectionVars false
set_option linter.unusedVariables false
set_option linter.unusedSimpArgs false
namespace Go.Proofs.YtcghikpogkigcaaGreatDoor.L
open Go Go.Ab Go.Proofs Go.RowKit
set_option maxRecDepth 1000000
theorem rT7_7 (C : Nat) : (List.range' 134 17).all (runT (.slice (some ⟨9, 0, none⟩) 7 C) (lc 7)) = true := by kernel_rfl
theorem rT8_7 (m C : Nat) : (List.range' 134 17).all (runT (.slice (some ⟨9, 0, none⟩) (m + 8) C) (lc 8)) = true := by kernel_rfl
theorem rT8_12 (m C : Nat) : (List.range' 226 17).all (runT (.slice (some ⟨9, 0, none⟩) (m + 8) C) (lc 8)) = true := by kernel_rfl
theorem rQ_50 : (List.range' 355 7).all runQ = true := by kernel_rfl
theorem rQ_52 : (List.range' 369 7).all runQ = true := by kernel_rfl
theorem rQ_34 : (List.range' 242 7).all runQ = true := by kernel_rfl
theorem rQ_36 : (List.range' 256 7).all runQ = true := by kernel_rfl
theorem rQ_47 : (List.range' 334 7).all runQ = true := by kernel_rfl
theorem rQ_66 : (List.range' 472 7).all runQ = true := by kernel_rfl
theorem rX7_0 (C : Nat) : (List.range' 173 96).all (runX (.slice (some ⟨9, 0, none⟩) 7 C) (lc 7)) = true := by kernel_rfl
theorem rC_0 (C : Nat) : runC (.slice (some ⟨9, 0, none⟩) 0 C) (lc 0) = true := by kernel_rfl
theorem rC_1 (C : Nat) : runC (.slice (some ⟨9, 0, none⟩) 1 C) (lc 1) = true := by kernel_rfl
end Go.Proofs.YtcghikpogkigcaaGreatDoor.L
