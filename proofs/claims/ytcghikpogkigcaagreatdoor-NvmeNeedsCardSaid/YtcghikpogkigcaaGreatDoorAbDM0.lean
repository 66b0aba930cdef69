/- Answers told ahead: their runs. -/
import Derived.Test.YtcghikpogkigcaaGreatDoorAbDM
set_option linter.all false
set_option linter.unusedSectionVars false
set_option linter.unusedVariables false
set_option linter.unusedSimpArgs false
namespace Go.Proofs.YtcghikpogkigcaaGreatDoor
open Go Go.Ab Go.Proofs Go.RowKit
set_option maxRecDepth 1000000

theorem run7_0 : @kF knNone code nats 5000 7 a7_0 (otabH tabsT1_5_7) (fun v _ => eqx 2 v v7_0) = true := by kernel_rfl
theorem right7_0 [Unk] : Right Tryz.prog tabsT1_5_7 7 (a7_0, v7_0) := right_in run7_0 (by kernel_rfl)
end Go.Proofs.YtcghikpogkigcaaGreatDoor
