/- Answers told ahead: their runs. -/
/- Answers told ahead: their runs. -/
import Derived.Test.YtcghikpogkigcaaGreatDoorAbDM
set_option linter.all false
set_option linter.unusedSectionVars false
set_option linter.unusedVariables false
set_option linter.unusedSimpArgs false
namespace Go.Proofs.YtcghikpogkigcaaGreatDoor
open Go Go.Ab Go.Proofs Go.RowKit
set_option maxRecDepth 1000000

theorem run7_0 : @kF knNone code nats 5000 7 a7_0 (otabH tabsT1_5_7) (fun v _ => eqx 2 v v7_0) = true := by kernel_rfl
theorem right7_0 [Unk] : Right Tryz.prog tabsT1_5_7 7 (a7_0, v7_0) := right_in run7_0 (by kernel_rfl)
theorem run11_0 : @kF knNone code nats 5000 11 a11_0 (otabH tabsT) (fun v _ => eqx 2 v v11_0) = true := by kernel_rfl
theorem right11_0 [Unk] : Right Tryz.prog tabsT 11 (a11_0, v11_0) := right_in run11_0 (by kernel_rfl)
theorem run11_1 : @kF knNone code nats 5000 11 a11_1 (otabH tabsT) (fun v _ => eqx 2 v v11_1) = true := by kernel_rfl
theorem right11_1 [Unk] : Right Tryz.prog tabsT 11 (a11_1, v11_1) := right_in run11_1 (by kernel_rfl)
theorem run11_2 : @kF knNone code nats 5000 11 a11_2 (otabH tabsT) (fun v _ => eqx 2 v v11_2) = true := by kernel_rfl
theorem right11_2 [Unk] : Right Tryz.prog tabsT 11 (a11_2, v11_2) := right_in run11_2 (by kernel_rfl)
theorem run26_0 : @kF knNone code nats 5000 26 a26_0 (otabH tabsT5) (fun v _ => eqx 2 v v26_0) = true := by kernel_rfl
theorem right26_0 [Unk] : Right Tryz.prog tabsT5 26 (a26_0, v26_0) := right_in run26_0 (by kernel_rfl)
theorem run81_0 : @kF knNone code nats 5000 81 a81_0 (otabH tabsT) (fun v _ => eqx 2 v v81_0) = true := by kernel_rfl
theorem right81_0 [Unk] : Right Tryz.prog tabsT 81 (a81_0, v81_0) := right_in run81_0 (by kernel_rfl)
theorem run81_1 : @kF knNone code nats 5000 81 a81_1 (otabH tabsT) (fun v _ => eqx 2 v v81_1) = true := by kernel_rfl
theorem right81_1 [Unk] : Right Tryz.prog tabsT 81 (a81_1, v81_1) := right_in run81_1 (by kernel_rfl)
end Go.Proofs.YtcghikpogkigcaaGreatDoor
namespace Go.Proofs.YtcghikpogkigcaaGreatDoor
open Go Go.Ab Go.Proofs Go.RowKit
set_option maxRecDepth 1000000

theorem run81_2 : @kF knNone code nats 5000 81 a81_2 (otabH tabsT) (fun v _ => eqx 2 v v81_2) = true := by kernel_rfl
theorem right81_2 [Unk] : Right Tryz.prog tabsT 81 (a81_2, v81_2) := right_in run81_2 (by kernel_rfl)
end Go.Proofs.YtcghikpogkigcaaGreatDoor
