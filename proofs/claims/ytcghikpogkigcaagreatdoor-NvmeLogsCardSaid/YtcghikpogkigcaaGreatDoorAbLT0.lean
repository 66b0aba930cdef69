/- NvmeLogs: runs. -/
import Derived.Test.YtcghikpogkigcaaGreatDoorAbLP
set_option linter.all false
set_option linter.unusedSectionVars false
set_option linter.unusedVariables false
set_option linter.unusedSimpArgs false
namespace Go.Proofs.YtcghikpogkigcaaGreatDoor.L
open Go Go.Ab Go.Proofs Go.RowKit
set_option maxRecDepth 1000000
theorem rT6_4 (C : Nat) : (List.range' 78 18).all (runT (.slice (some ⟨9, 0, none⟩) 6 C) (lc 6)) = true := by kernel_rfl
theorem rT7_4 (C : Nat) : (List.range' 78 18).all (runT (.slice (some ⟨9, 0, none⟩) 7 C) (lc 7)) = true := by kernel_rfl
theorem rT8_4 (m C : Nat) : (List.range' 78 18).all (runT (.slice (some ⟨9, 0, none⟩) (m + 8) C) (lc 8)) = true := by kernel_rfl
theorem rM_0 : (List.range' 0 196).all runM = true := by kernel_rfl
theorem rX_0 : (List.range' 0 181).all runXX = true := by kernel_rfl
theorem rT5_1 (C : Nat) : (List.range' 20 20).all (runT (.slice (some ⟨9, 0, none⟩) 5 C) (lc 5)) = true := by kernel_rfl
theorem rT6_1 (C : Nat) : (List.range' 20 20).all (runT (.slice (some ⟨9, 0, none⟩) 6 C) (lc 6)) = true := by kernel_rfl
theorem rT6_2 (C : Nat) : (List.range' 40 20).all (runT (.slice (some ⟨9, 0, none⟩) 6 C) (lc 6)) = true := by kernel_rfl
theorem rT7_1 (C : Nat) : (List.range' 20 20).all (runT (.slice (some ⟨9, 0, none⟩) 7 C) (lc 7)) = true := by kernel_rfl
theorem rX4_0 (C : Nat) : (List.range' 25 30).all (runX (.slice (some ⟨9, 0, none⟩) 4 C) (lc 4)) = true := by kernel_rfl
theorem rC_N (C : Nat) : runC (.slice none 0 0) [] = true := by kernel_rfl
end Go.Proofs.YtcghikpogkigcaaGreatDoor.L
