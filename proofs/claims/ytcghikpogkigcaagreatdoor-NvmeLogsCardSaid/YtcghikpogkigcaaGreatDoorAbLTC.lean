/- NvmeLogs: the executor is made: runs. -/
import Derived.Test.YtcghikpogkigcaaGreatDoorAbLTB
set_option linter.all false
set_option linter.unusedSectionVars false
set_option linter.unusedVariables false
set_option linter.unusedSimpArgs false
namespace Go.Proofs.YtcghikpogkigcaaGreatDoor.L
open Go Go.Ab Go.Proofs Go.RowKit
set_option maxRecDepth 1000000
theorem rB_4 (C : Nat) : runB2 (.slice (some ⟨9, 0, none⟩) 4 C) (lc 4) = true := by kernel_rfl
theorem rB_5 (C : Nat) : runB2 (.slice (some ⟨9, 0, none⟩) 5 C) (lc 5) = true := by kernel_rfl
theorem rB_6 (C : Nat) : runB2 (.slice (some ⟨9, 0, none⟩) 6 C) (lc 6) = true := by kernel_rfl
theorem rB_7 (C : Nat) : runB2 (.slice (some ⟨9, 0, none⟩) 7 C) (lc 7) = true := by kernel_rfl
theorem rB_8 (m C : Nat) : runB2 (.slice (some ⟨9, 0, none⟩) (m + 8) C) (lc 8) = true := by kernel_rfl
end Go.Proofs.YtcghikpogkigcaaGreatDoor.L
