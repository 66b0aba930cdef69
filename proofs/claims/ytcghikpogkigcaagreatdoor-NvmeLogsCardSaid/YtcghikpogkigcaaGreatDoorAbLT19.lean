/- NvmeLogs: runs. -/
import Derived.Test.YtcghikpogkigcaaGreatDoorAbLP
set_option linter.all false
set_option linter.unusedSectionVars false
set_option linter.unusedVariables false
set_option linter.unusedSimpArgs false
namespace Go.Proofs.YtcghikpogkigcaaGreatDoor.L
open Go Go.Ab Go.Proofs Go.RowKit
set_option maxRecDepth 1000000
theorem rT5_2 (C : Nat) : (List.range' 40 15).all (runT (.slice (some ⟨9, 0, none⟩) 5 C) (lc 5)) = true := by kernel_rfl
theorem rQ_142 : (List.range' 1048 9).all runQ = true := by kernel_rfl
theorem rE0_5 (C : Nat) : runE0 (.slice (some ⟨9, 0, none⟩) 5 C) (lc 5) = true := by kernel_rfl
theorem rE0_6 (C : Nat) : runE0 (.slice (some ⟨9, 0, none⟩) 6 C) (lc 6) = true := by kernel_rfl
theorem rE0_7 (C : Nat) : runE0 (.slice (some ⟨9, 0, none⟩) 7 C) (lc 7) = true := by kernel_rfl
theorem rE0_8 (m C : Nat) : runE0 (.slice (some ⟨9, 0, none⟩) (m + 8) C) (lc 8) = true := by kernel_rfl
theorem rCF_N (C : Nat) : runCF (.slice none 0 0) [] = true := by kernel_rfl
theorem rCF_0 (C : Nat) : runCF (.slice (some ⟨9, 0, none⟩) 0 C) (lc 0) = true := by kernel_rfl
theorem rCF_1 (C : Nat) : runCF (.slice (some ⟨9, 0, none⟩) 1 C) (lc 1) = true := by kernel_rfl
theorem rCF_2 (C : Nat) : runCF (.slice (some ⟨9, 0, none⟩) 2 C) (lc 2) = true := by kernel_rfl
theorem rCF_3 (C : Nat) : runCF (.slice (some ⟨9, 0, none⟩) 3 C) (lc 3) = true := by kernel_rfl
theorem rCF_4 (C : Nat) : runCF (.slice (some ⟨9, 0, none⟩) 4 C) (lc 4) = true := by kernel_rfl
theorem rCF_5 (C : Nat) : runCF (.slice (some ⟨9, 0, none⟩) 5 C) (lc 5) = true := by kernel_rfl
theorem rCF_6 (C : Nat) : runCF (.slice (some ⟨9, 0, none⟩) 6 C) (lc 6) = true := by kernel_rfl
theorem rCF_7 (C : Nat) : runCF (.slice (some ⟨9, 0, none⟩) 7 C) (lc 7) = true := by kernel_rfl
theorem rCF_8 (m C : Nat) : runCF (.slice (some ⟨9, 0, none⟩) (m + 8) C) (lc 8) = true := by kernel_rfl
theorem rE_N (C : Nat) : runE (.slice none 0 0) [] = true := by kernel_rfl
theorem rA_0 (C : Nat) : runA (.slice (some ⟨9, 0, none⟩) 0 C) (lc 0) = true := by kernel_rfl
theorem rD_0 (C : Nat) : runD (.slice (some ⟨9, 0, none⟩) 0 C) (lc 0) = true := by kernel_rfl
theorem rE_0 (C : Nat) : runE (.slice (some ⟨9, 0, none⟩) 0 C) (lc 0) = true := by kernel_rfl
theorem rA_1 (C : Nat) : runA (.slice (some ⟨9, 0, none⟩) 1 C) (lc 1) = true := by kernel_rfl
theorem rD_1 (C : Nat) : runD (.slice (some ⟨9, 0, none⟩) 1 C) (lc 1) = true := by kernel_rfl
theorem rE_1 (C : Nat) : runE (.slice (some ⟨9, 0, none⟩) 1 C) (lc 1) = true := by kernel_rfl
theorem rA_2 (C : Nat) : runA (.slice (some ⟨9, 0, none⟩) 2 C) (lc 2) = true := by kernel_rfl
theorem rD_2 (C : Nat) : runD (.slice (some ⟨9, 0, none⟩) 2 C) (lc 2) = true := by kernel_rfl
theorem rE_2 (C : Nat) : runE (.slice (some ⟨9, 0, none⟩) 2 C) (lc 2) = true := by kernel_rfl
theorem rA_3 (C : Nat) : runA (.slice (some ⟨9, 0, none⟩) 3 C) (lc 3) = true := by kernel_rfl
theorem rD_3 (C : Nat) : runD (.slice (some ⟨9, 0, none⟩) 3 C) (lc 3) = true := by kernel_rfl
theorem rE_3 (C : Nat) : runE (.slice (some ⟨9, 0, none⟩) 3 C) (lc 3) = true := by kernel_rfl
theorem rA_4 (C : Nat) : runA (.slice (some ⟨9, 0, none⟩) 4 C) (lc 4) = true := by kernel_rfl
theorem rD_4 (C : Nat) : runD (.slice (some ⟨9, 0, none⟩) 4 C) (lc 4) = true := by kernel_rfl
theorem rE_4 (C : Nat) : runE (.slice (some ⟨9, 0, none⟩) 4 C) (lc 4) = true := by kernel_rfl
theorem rA_5 (C : Nat) : runA (.slice (some ⟨9, 0, none⟩) 5 C) (lc 5) = true := by kernel_rfl
theorem rD_5 (C : Nat) : runD (.slice (some ⟨9, 0, none⟩) 5 C) (lc 5) = true := by kernel_rfl
theorem rE_5 (C : Nat) : runE (.slice (some ⟨9, 0, none⟩) 5 C) (lc 5) = true := by kernel_rfl
theorem rA_6 (C : Nat) : runA (.slice (some ⟨9, 0, none⟩) 6 C) (lc 6) = true := by kernel_rfl
theorem rD_6 (C : Nat) : runD (.slice (some ⟨9, 0, none⟩) 6 C) (lc 6) = true := by kernel_rfl
theorem rE_6 (C : Nat) : runE (.slice (some ⟨9, 0, none⟩) 6 C) (lc 6) = true := by kernel_rfl
theorem rA_7 (C : Nat) : runA (.slice (some ⟨9, 0, none⟩) 7 C) (lc 7) = true := by kernel_rfl
theorem rD_7 (C : Nat) : runD (.slice (some ⟨9, 0, none⟩) 7 C) (lc 7) = true := by kernel_rfl
theorem rE_7 (C : Nat) : runE (.slice (some ⟨9, 0, none⟩) 7 C) (lc 7) = true := by kernel_rfl
theorem rA_8 (m C : Nat) : runA (.slice (some ⟨9, 0, none⟩) (m + 8) C) (lc 8) = true := by kernel_rfl
theorem rD_8 (m C : Nat) : runD (.slice (some ⟨9, 0, none⟩) (m + 8) C) (lc 8) = true := by kernel_rfl
theorem rE_8 (m C : Nat) : runE (.slice (some ⟨9, 0, none⟩) (m + 8) C) (lc 8) = true := by kernel_rfl
end Go.Proofs.YtcghikpogkigcaaGreatDoor.L
