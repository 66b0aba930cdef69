/- NvmePairs: all its runs. -/
import Derived.Test.YtainaihfbljjoaaGreatDoorAbPRun0
import Derived.Test.YtainaihfbljjoaaGreatDoorAbPRun1
set_option linter.all false
set_option linter.unusedSectionVars false
set_option linter.unusedVariables false
set_option linter.unusedSimpArgs false
namespace Go.Proofs.YtainaihfbljjoaaGreatDoor.R
open Go Go.Ab Go.Proofs Go.RowKit
set_option maxRecDepth 1000000
theorem runs (q a : Nat) (hq : q < 3) (ha : a < 6 - q) : run q a 0 = true ∧ run q a 16 = true := by
  match q, a, hq, ha with
  | 0, 0, _, _ => exact ⟨run0_0_0, run0_0_16⟩
  | 0, 1, _, _ => exact ⟨run0_1_0, run0_1_16⟩
  | 0, 2, _, _ => exact ⟨run0_2_0, run0_2_16⟩
  | 0, 3, _, _ => exact ⟨run0_3_0, run0_3_16⟩
  | 0, 4, _, _ => exact ⟨run0_4_0, run0_4_16⟩
  | 0, 5, _, _ => exact ⟨run0_5_0, run0_5_16⟩
  | 1, 0, _, _ => exact ⟨run1_0_0, run1_0_16⟩
  | 1, 1, _, _ => exact ⟨run1_1_0, run1_1_16⟩
  | 1, 2, _, _ => exact ⟨run1_2_0, run1_2_16⟩
  | 1, 3, _, _ => exact ⟨run1_3_0, run1_3_16⟩
  | 1, 4, _, _ => exact ⟨run1_4_0, run1_4_16⟩
  | 2, 0, _, _ => exact ⟨run2_0_0, run2_0_16⟩
  | 2, 1, _, _ => exact ⟨run2_1_0, run2_1_16⟩
  | 2, 2, _, _ => exact ⟨run2_2_0, run2_2_16⟩
  | 2, 3, _, _ => exact ⟨run2_3_0, run2_3_16⟩
  | 0, a + 6, _, h => omega
  | 1, a + 5, _, h => omega
  | 2, a + 4, _, h => omega
  | q + 3, _, h, _ => omega
end Go.Proofs.YtainaihfbljjoaaGreatDoor.R
