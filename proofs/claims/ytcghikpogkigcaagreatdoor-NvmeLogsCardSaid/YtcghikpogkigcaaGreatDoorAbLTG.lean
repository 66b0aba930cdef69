/- NvmeLogs: lists of eight entries: rounds. -/
import Derived.Test.YtcghikpogkigcaaGreatDoorAbLD
set_option linter.all false
set_option linter.unusedSectionVars false
set_option linter.unusedVariables false
set_option linter.unusedSimpArgs false
namespace Go.Proofs.YtcghikpogkigcaaGreatDoor.L
open Go Go.Ab Go.Proofs Go.RowKit
set_option maxRecDepth 1000000
theorem rT8c_2 (C : Nat) : (List.range' 48 24).all (runT (.slice (some ⟨9, 0, none⟩) 8 C) (lc 8)) = true := by kernel_rfl
theorem rT8c_5 (C : Nat) : (List.range' 120 24).all (runT (.slice (some ⟨9, 0, none⟩) 8 C) (lc 8)) = true := by kernel_rfl
theorem rT8c_8 (C : Nat) : (List.range' 192 24).all (runT (.slice (some ⟨9, 0, none⟩) 8 C) (lc 8)) = true := by kernel_rfl
theorem rT8c_11 (C : Nat) : (List.range' 264 5).all (runT (.slice (some ⟨9, 0, none⟩) 8 C) (lc 8)) = true := by kernel_rfl
end Go.Proofs.YtcghikpogkigcaaGreatDoor.L
