/- NvmeLogs: the executor is made: runs. -/
import Derived.Test.YtcghikpogkigcaaGreatDoorAbLP
set_option linter.all false
set_option linter.unusedSectionVars false
set_option linter.unusedVariables false
set_option linter.unusedSimpArgs false
namespace Go.Proofs.YtcghikpogkigcaaGreatDoor.L
open Go Go.Ab Go.Proofs Go.RowKit
set_option maxRecDepth 1000000
noncomputable def tB2 : LT := lf 0 [(10, 391, 0), (11, 387, 0), (12, 390, 0), (13, 27, 0), (14, 25, 0), (15, 18, 0), (16, 23, 0)] 0 0
noncomputable def runB2 (V : Value) (K : List Value) : Bool := runB0 (pathX wB xb) h0 h0 (stC V K) (stC V K) 0 tB2 (stB V K 0)
theorem rB_N (C : Nat) : runB2 (.slice none 0 0) [] = true := by kernel_rfl
theorem rB_0 (C : Nat) : runB2 (.slice (some ⟨9, 0, none⟩) 0 C) (lc 0) = true := by kernel_rfl
theorem rB_1 (C : Nat) : runB2 (.slice (some ⟨9, 0, none⟩) 1 C) (lc 1) = true := by kernel_rfl
theorem rB_2 (C : Nat) : runB2 (.slice (some ⟨9, 0, none⟩) 2 C) (lc 2) = true := by kernel_rfl
theorem rB_3 (C : Nat) : runB2 (.slice (some ⟨9, 0, none⟩) 3 C) (lc 3) = true := by kernel_rfl
end Go.Proofs.YtcghikpogkigcaaGreatDoor.L
