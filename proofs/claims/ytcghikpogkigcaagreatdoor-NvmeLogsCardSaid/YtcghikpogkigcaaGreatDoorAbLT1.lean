/- NvmeLogs: runs. -/
import Derived.Test.YtcghikpogkigcaaGreatDoorAbLP
set_option linter.all false
set_option linter.unusedSectionVars false
set_option linter.unusedVariables false
set_option linter.unusedSimpArgs false
namespace Go.Proofs.YtcghikpogkigcaaGreatDoor.L
open Go Go.Ab Go.Proofs Go.RowKit
set_option maxRecDepth 1000000
theorem rT7_2 (C : Nat) : (List.range' 40 20).all (runT (.slice (some ⟨9, 0, none⟩) 7 C) (lc 7)) = true := by kernel_rfl
theorem rT8_1 (m C : Nat) : (List.range' 20 20).all (runT (.slice (some ⟨9, 0, none⟩) (m + 8) C) (lc 8)) = true := by kernel_rfl
theorem rT8_2 (m C : Nat) : (List.range' 40 20).all (runT (.slice (some ⟨9, 0, none⟩) (m + 8) C) (lc 8)) = true := by kernel_rfl
theorem rQ_138 : (List.range' 1010 11).all runQ = true := by kernel_rfl
theorem rQ_75 : (List.range' 535 10).all runQ = true := by kernel_rfl
theorem rQ_72 : (List.range' 514 7).all runQ = true := by kernel_rfl
theorem rQ_82 : (List.range' 587 7).all runQ = true := by kernel_rfl
theorem rT8_10 (m C : Nat) : (List.range' 190 18).all (runT (.slice (some ⟨9, 0, none⟩) (m + 8) C) (lc 8)) = true := by kernel_rfl
theorem rT8_11 (m C : Nat) : (List.range' 208 18).all (runT (.slice (some ⟨9, 0, none⟩) (m + 8) C) (lc 8)) = true := by kernel_rfl
theorem rX_1 : (List.range' 181 44).all runXX = true := by kernel_rfl
theorem rX1_0 (C : Nat) : (List.range' 1 2).all (runX (.slice (some ⟨9, 0, none⟩) 1 C) (lc 1)) = true := by kernel_rfl
theorem rXN_0 (C : Nat) : (List.range' 0 1).all (runX (.slice none 0 0) []) = true := by kernel_rfl
end Go.Proofs.YtcghikpogkigcaaGreatDoor.L
