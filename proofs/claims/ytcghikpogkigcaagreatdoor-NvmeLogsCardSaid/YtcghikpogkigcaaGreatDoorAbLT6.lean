/- NvmeLogs: runs. -/
import Derived.Test.YtcghikpogkigcaaGreatDoorAbLP
set_option linter.all false
set_option linter.unusedSectionVars false
set_option linter.unusedVariables false
set_option linter.unusedSimpArgs false
namespace Go.Proofs.YtcghikpogkigcaaGreatDoor.L
open Go Go.Ab Go.Proofs Go.RowKit
set_option maxRecDepth 1000000
theorem rT7_6 (C : Nat) : (List.range' 116 18).all (runT (.slice (some ⟨9, 0, none⟩) 7 C) (lc 7)) = true := by kernel_rfl
theorem rT8_3 (m C : Nat) : (List.range' 60 18).all (runT (.slice (some ⟨9, 0, none⟩) (m + 8) C) (lc 8)) = true := by kernel_rfl
theorem rT8_6 (m C : Nat) : (List.range' 116 18).all (runT (.slice (some ⟨9, 0, none⟩) (m + 8) C) (lc 8)) = true := by kernel_rfl
theorem rT8_13 (m C : Nat) : (List.range' 243 18).all (runT (.slice (some ⟨9, 0, none⟩) (m + 8) C) (lc 8)) = true := by kernel_rfl
theorem rQ_0 : (List.range' 0 8).all runQ = true := by kernel_rfl
theorem rQ_128 : (List.range' 928 11).all runQ = true := by kernel_rfl
theorem rT7_5 (C : Nat) : (List.range' 96 20).all (runT (.slice (some ⟨9, 0, none⟩) 7 C) (lc 7)) = true := by kernel_rfl
theorem rT8_5 (m C : Nat) : (List.range' 96 20).all (runT (.slice (some ⟨9, 0, none⟩) (m + 8) C) (lc 8)) = true := by kernel_rfl
theorem rQ_136 : (List.range' 990 9).all runQ = true := by kernel_rfl
theorem rT8_14 (m C : Nat) : (List.range' 261 8).all (runT (.slice (some ⟨9, 0, none⟩) (m + 8) C) (lc 8)) = true := by kernel_rfl
theorem rM_1 : (List.range' 196 29).all runM = true := by kernel_rfl
theorem rT1_0 (C : Nat) : (List.range' 0 1).all (runT (.slice (some ⟨9, 0, none⟩) 1 C) (lc 1)) = true := by kernel_rfl
end Go.Proofs.YtcghikpogkigcaaGreatDoor.L
