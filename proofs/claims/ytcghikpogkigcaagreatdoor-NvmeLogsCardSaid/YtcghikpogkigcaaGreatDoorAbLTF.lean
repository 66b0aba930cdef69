/- NvmeLogs: lists of eight entries: rounds. -/
import Derived.Test.YtcghikpogkigcaaGreatDoorAbLD
set_option linter.all false
set_option linter.unusedSectionVars false
set_option linter.unusedVariables false
set_option linter.unusedSimpArgs false
namespace Go.Proofs.YtcghikpogkigcaaGreatDoor.L
open Go Go.Ab Go.Proofs Go.RowKit
set_option maxRecDepth 1000000
theorem rT8c_1 (C : Nat) : (List.range' 24 24).all (runT (.slice (some ⟨9, 0, none⟩) 8 C) (lc 8)) = true := by kernel_rfl
theorem rT8c_4 (C : Nat) : (List.range' 96 24).all (runT (.slice (some ⟨9, 0, none⟩) 8 C) (lc 8)) = true := by kernel_rfl
theorem rT8c_7 (C : Nat) : (List.range' 168 24).all (runT (.slice (some ⟨9, 0, none⟩) 8 C) (lc 8)) = true := by kernel_rfl
theorem rT8c_10 (C : Nat) : (List.range' 240 24).all (runT (.slice (some ⟨9, 0, none⟩) 8 C) (lc 8)) = true := by kernel_rfl
end Go.Proofs.YtcghikpogkigcaaGreatDoor.L
