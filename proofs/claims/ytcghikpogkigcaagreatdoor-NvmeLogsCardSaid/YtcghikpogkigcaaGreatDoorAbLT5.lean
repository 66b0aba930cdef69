/- NvmeLogs: runs. -/
import Derived.Test.YtcghikpogkigcaaGreatDoorAbLP
set_option linter.all false
set_option linter.unusedSectionVars false
set_option linter.unusedVariables false
set_option linter.unusedSimpArgs false
namespace Go.Proofs.YtcghikpogkigcaaGreatDoor.L
open Go Go.Ab Go.Proofs Go.RowKit
set_option maxRecDepth 1000000
theorem rQ_80 : (List.range' 573 7).all runQ = true := by kernel_rfl
theorem rQ_98 : (List.range' 705 7).all runQ = true := by kernel_rfl
theorem rQ_104 : (List.range' 750 7).all runQ = true := by kernel_rfl
theorem rQ_106 : (List.range' 764 7).all runQ = true := by kernel_rfl
theorem rQ_84 : (List.range' 601 7).all runQ = true := by kernel_rfl
theorem rQ_85 : (List.range' 608 7).all runQ = true := by kernel_rfl
theorem rQ_45 : (List.range' 319 8).all runQ = true := by kernel_rfl
theorem rT6_3 (C : Nat) : (List.range' 60 18).all (runT (.slice (some ⟨9, 0, none⟩) 6 C) (lc 6)) = true := by kernel_rfl
theorem rT7_3 (C : Nat) : (List.range' 60 18).all (runT (.slice (some ⟨9, 0, none⟩) 7 C) (lc 7)) = true := by kernel_rfl
theorem rX6_0 (C : Nat) : (List.range' 103 70).all (runX (.slice (some ⟨9, 0, none⟩) 6 C) (lc 6)) = true := by kernel_rfl
theorem pT_0 : (List.range' 0 1).all (spT 0) = true := by kernel_rfl
end Go.Proofs.YtcghikpogkigcaaGreatDoor.L
