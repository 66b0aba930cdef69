/- NvmeLogs: lists of eight entries: rounds. -/
import Derived.Test.YtcghikpogkigcaaGreatDoorAbLD
set_option linter.all false
set_option linter.unusedSectionVars false
set_option linter.unusedVariables false
set_option linter.unusedSimpArgs false
namespace Go.Proofs.YtcghikpogkigcaaGreatDoor.L
open Go Go.Ab Go.Proofs Go.RowKit
set_option maxRecDepth 1000000
theorem rT8c_0 (C : Nat) : (List.range' 0 24).all (runT (.slice (some ⟨9, 0, none⟩) 8 C) (lc 8)) = true := by kernel_rfl
theorem rT8c_3 (C : Nat) : (List.range' 72 24).all (runT (.slice (some ⟨9, 0, none⟩) 8 C) (lc 8)) = true := by kernel_rfl
theorem rT8c_6 (C : Nat) : (List.range' 144 24).all (runT (.slice (some ⟨9, 0, none⟩) 8 C) (lc 8)) = true := by kernel_rfl
theorem rT8c_9 (C : Nat) : (List.range' 216 24).all (runT (.slice (some ⟨9, 0, none⟩) 8 C) (lc 8)) = true := by kernel_rfl
end Go.Proofs.YtcghikpogkigcaaGreatDoor.L
