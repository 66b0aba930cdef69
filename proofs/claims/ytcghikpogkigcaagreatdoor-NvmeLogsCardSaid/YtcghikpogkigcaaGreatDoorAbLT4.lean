/- NvmeLogs: runs. -/
import Derived.Test.YtcghikpogkigcaaGreatDoorAbLP
set_option linter.all false
set_option linter.unusedSectionVars false
set_option linter.unusedVariables false
set_option linter.unusedSimpArgs false
namespace Go.Proofs.YtcghikpogkigcaaGreatDoor.L
open Go Go.Ab Go.Proofs Go.RowKit
set_option maxRecDepth 1000000
theorem rT8_8 (m C : Nat) : (List.range' 151 19).all (runT (.slice (some ⟨9, 0, none⟩) (m + 8) C) (lc 8)) = true := by kernel_rfl
theorem rQ_63 : (List.range' 447 11).all runQ = true := by kernel_rfl
theorem rQ_137 : (List.range' 999 11).all runQ = true := by kernel_rfl
theorem rQ_31 : (List.range' 218 10).all runQ = true := by kernel_rfl
theorem rT4_0 (C : Nat) : (List.range' 0 20).all (runT (.slice (some ⟨9, 0, none⟩) 4 C) (lc 4)) = true := by kernel_rfl
theorem rT5_0 (C : Nat) : (List.range' 0 20).all (runT (.slice (some ⟨9, 0, none⟩) 5 C) (lc 5)) = true := by kernel_rfl
theorem rT6_0 (C : Nat) : (List.range' 0 20).all (runT (.slice (some ⟨9, 0, none⟩) 6 C) (lc 6)) = true := by kernel_rfl
theorem rT7_0 (C : Nat) : (List.range' 0 20).all (runT (.slice (some ⟨9, 0, none⟩) 7 C) (lc 7)) = true := by kernel_rfl
theorem rT8_0 (m C : Nat) : (List.range' 0 20).all (runT (.slice (some ⟨9, 0, none⟩) (m + 8) C) (lc 8)) = true := by kernel_rfl
theorem rT3_0 (C : Nat) : (List.range' 0 9).all (runT (.slice (some ⟨9, 0, none⟩) 3 C) (lc 3)) = true := by kernel_rfl
end Go.Proofs.YtcghikpogkigcaaGreatDoor.L
