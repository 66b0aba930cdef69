/- NvmeLogs: lists of eight entries, and of more: runs. -/
import Derived.Test.YtcghikpogkigcaaGreatDoorAbLD
set_option linter.all false
set_option linter.unusedSectionVars false
set_option linter.unusedVariables false
set_option linter.unusedSimpArgs false
namespace Go.Proofs.YtcghikpogkigcaaGreatDoor.L
open Go Go.Ab Go.Proofs Go.RowKit
set_option maxRecDepth 1000000
theorem rE0_8c (C : Nat) : runE0 (.slice (some ⟨9, 0, none⟩) 8 C) (lc 8) = true := by kernel_rfl
theorem rA_8c (C : Nat) : runA (.slice (some ⟨9, 0, none⟩) 8 C) (lc 8) = true := by kernel_rfl
theorem rB2_8c (C : Nat) : runB2 (.slice (some ⟨9, 0, none⟩) 8 C) (lc 8) = true := by kernel_rfl
theorem rC_8c (C : Nat) : runC (.slice (some ⟨9, 0, none⟩) 8 C) (lc 8) = true := by kernel_rfl
theorem rCF_8c (C : Nat) : runCF (.slice (some ⟨9, 0, none⟩) 8 C) (lc 8) = true := by kernel_rfl
theorem rD_8c (C : Nat) : runD (.slice (some ⟨9, 0, none⟩) 8 C) (lc 8) = true := by kernel_rfl
theorem rE_8c (C : Nat) : runE (.slice (some ⟨9, 0, none⟩) 8 C) (lc 8) = true := by kernel_rfl
theorem rXD_0 (C : Nat) : (List.range' 269 21).all (runXD (.slice (some ⟨9, 0, none⟩) 8 C) (lc 8)) = true := by kernel_rfl
theorem rX9_0 (m C : Nat) : (List.range' 269 21).all (runX (.slice (some ⟨9, 0, none⟩) (m + 1 + 8) C) (lc 8)) = true := by kernel_rfl
theorem rXD_1 (C : Nat) : (List.range' 290 21).all (runXD (.slice (some ⟨9, 0, none⟩) 8 C) (lc 8)) = true := by kernel_rfl
theorem rX9_1 (m C : Nat) : (List.range' 290 21).all (runX (.slice (some ⟨9, 0, none⟩) (m + 1 + 8) C) (lc 8)) = true := by kernel_rfl
theorem rXD_2 (C : Nat) : (List.range' 311 21).all (runXD (.slice (some ⟨9, 0, none⟩) 8 C) (lc 8)) = true := by kernel_rfl
theorem rX9_2 (m C : Nat) : (List.range' 311 21).all (runX (.slice (some ⟨9, 0, none⟩) (m + 1 + 8) C) (lc 8)) = true := by kernel_rfl
theorem rXD_3 (C : Nat) : (List.range' 332 21).all (runXD (.slice (some ⟨9, 0, none⟩) 8 C) (lc 8)) = true := by kernel_rfl
theorem rX9_3 (m C : Nat) : (List.range' 332 21).all (runX (.slice (some ⟨9, 0, none⟩) (m + 1 + 8) C) (lc 8)) = true := by kernel_rfl
theorem rXD_4 (C : Nat) : (List.range' 353 21).all (runXD (.slice (some ⟨9, 0, none⟩) 8 C) (lc 8)) = true := by kernel_rfl
theorem rX9_4 (m C : Nat) : (List.range' 353 21).all (runX (.slice (some ⟨9, 0, none⟩) (m + 1 + 8) C) (lc 8)) = true := by kernel_rfl
theorem rXD_5 (C : Nat) : (List.range' 374 21).all (runXD (.slice (some ⟨9, 0, none⟩) 8 C) (lc 8)) = true := by kernel_rfl
theorem rX9_5 (m C : Nat) : (List.range' 374 21).all (runX (.slice (some ⟨9, 0, none⟩) (m + 1 + 8) C) (lc 8)) = true := by kernel_rfl
theorem clX_all : (List.range' 0 225).all clX = true := by kernel_rfl
theorem spXD_all : (List.range' 269 126).all spXD = true := by kernel_rfl
end Go.Proofs.YtcghikpogkigcaaGreatDoor.L
