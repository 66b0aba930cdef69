/- Answers told ahead: their runs. -/
import Derived.Test.YtainaihfbljjoaaGreatDoorAbPM
set_option linter.all false
set_option linter.unusedSectionVars false
set_option linter.unusedVariables false
set_option linter.unusedSimpArgs false
namespace Go.Proofs.YtainaihfbljjoaaGreatDoor
open Go Go.Ab Go.Proofs Go.RowKit
set_option maxRecDepth 1000000

theorem run9_0 : kF code nats 5000 9 a9_0 (otabH tabsT3_4_7) (fun v _ => eqx 2 v v9_0) = true := by kernel_rfl
theorem right9_0 [Unk] : Right Tryz.prog tabsT3_4_7 9 (a9_0, v9_0) := right_in run9_0 (by kernel_rfl)
theorem run14_0 : kF code nats 5000 14 a14_0 (otabH tabsT) (fun v _ => eqx 2 v v14_0) = true := by kernel_rfl
theorem right14_0 [Unk] : Right Tryz.prog tabsT 14 (a14_0, v14_0) := right_in run14_0 (by kernel_rfl)
theorem run14_1 : kF code nats 5000 14 a14_1 (otabH tabsT) (fun v _ => eqx 2 v v14_1) = true := by kernel_rfl
theorem right14_1 [Unk] : Right Tryz.prog tabsT 14 (a14_1, v14_1) := right_in run14_1 (by kernel_rfl)
theorem run14_2 : kF code nats 5000 14 a14_2 (otabH tabsT) (fun v _ => eqx 2 v v14_2) = true := by kernel_rfl
theorem right14_2 [Unk] : Right Tryz.prog tabsT 14 (a14_2, v14_2) := right_in run14_2 (by kernel_rfl)
theorem run14_3 : kF code nats 5000 14 a14_3 (otabH tabsT) (fun v _ => eqx 2 v v14_3) = true := by kernel_rfl
theorem right14_3 [Unk] : Right Tryz.prog tabsT 14 (a14_3, v14_3) := right_in run14_3 (by kernel_rfl)
theorem run14_4 : kF code nats 5000 14 a14_4 (otabH tabsT) (fun v _ => eqx 2 v v14_4) = true := by kernel_rfl
theorem right14_4 [Unk] : Right Tryz.prog tabsT 14 (a14_4, v14_4) := right_in run14_4 (by kernel_rfl)
theorem run14_5 : kF code nats 5000 14 a14_5 (otabH tabsT) (fun v _ => eqx 2 v v14_5) = true := by kernel_rfl
theorem right14_5 [Unk] : Right Tryz.prog tabsT 14 (a14_5, v14_5) := right_in run14_5 (by kernel_rfl)
theorem run14_6 : kF code nats 5000 14 a14_6 (otabH tabsT) (fun v _ => eqx 2 v v14_6) = true := by kernel_rfl
theorem right14_6 [Unk] : Right Tryz.prog tabsT 14 (a14_6, v14_6) := right_in run14_6 (by kernel_rfl)
theorem run14_7 : kF code nats 5000 14 a14_7 (otabH tabsT) (fun v _ => eqx 2 v v14_7) = true := by kernel_rfl
theorem right14_7 [Unk] : Right Tryz.prog tabsT 14 (a14_7, v14_7) := right_in run14_7 (by kernel_rfl)
theorem run14_8 : kF code nats 5000 14 a14_8 (otabH tabsT) (fun v _ => eqx 2 v v14_8) = true := by kernel_rfl
theorem right14_8 [Unk] : Right Tryz.prog tabsT 14 (a14_8, v14_8) := right_in run14_8 (by kernel_rfl)
theorem run54_0 : kF code nats 5000 54 a54_0 (otabH tabsT3) (fun v _ => eqx 2 v v54_0) = true := by kernel_rfl
theorem right54_0 [Unk] : Right Tryz.prog tabsT3 54 (a54_0, v54_0) := right_in run54_0 (by kernel_rfl)
theorem run54_1 : kF code nats 5000 54 a54_1 (otabH tabsT3) (fun v _ => eqx 2 v v54_1) = true := by kernel_rfl
theorem right54_1 [Unk] : Right Tryz.prog tabsT3 54 (a54_1, v54_1) := right_in run54_1 (by kernel_rfl)
theorem run54_2 : kF code nats 5000 54 a54_2 (otabH tabsT3) (fun v _ => eqx 2 v v54_2) = true := by kernel_rfl
theorem right54_2 [Unk] : Right Tryz.prog tabsT3 54 (a54_2, v54_2) := right_in run54_2 (by kernel_rfl)
theorem run54_4 : kF code nats 5000 54 a54_4 (otabH tabsT3) (fun v _ => eqx 2 v v54_4) = true := by kernel_rfl
theorem right54_4 [Unk] : Right Tryz.prog tabsT3 54 (a54_4, v54_4) := right_in run54_4 (by kernel_rfl)
theorem run54_5 : kF code nats 5000 54 a54_5 (otabH tabsT3) (fun v _ => eqx 2 v v54_5) = true := by kernel_rfl
theorem right54_5 [Unk] : Right Tryz.prog tabsT3 54 (a54_5, v54_5) := right_in run54_5 (by kernel_rfl)
theorem run54_6 : kF code nats 5000 54 a54_6 (otabH tabsT3) (fun v _ => eqx 2 v v54_6) = true := by kernel_rfl
theorem right54_6 [Unk] : Right Tryz.prog tabsT3 54 (a54_6, v54_6) := right_in run54_6 (by kernel_rfl)
theorem run54_8 : kF code nats 5000 54 a54_8 (otabH tabsT3) (fun v _ => eqx 2 v v54_8) = true := by kernel_rfl
theorem right54_8 [Unk] : Right Tryz.prog tabsT3 54 (a54_8, v54_8) := right_in run54_8 (by kernel_rfl)
theorem run54_9 : kF code nats 5000 54 a54_9 (otabH tabsT3) (fun v _ => eqx 2 v v54_9) = true := by kernel_rfl
theorem right54_9 [Unk] : Right Tryz.prog tabsT3 54 (a54_9, v54_9) := right_in run54_9 (by kernel_rfl)
theorem run54_10 : kF code nats 5000 54 a54_10 (otabH tabsT3) (fun v _ => eqx 2 v v54_10) = true := by kernel_rfl
theorem right54_10 [Unk] : Right Tryz.prog tabsT3 54 (a54_10, v54_10) := right_in run54_10 (by kernel_rfl)
theorem run54_12 : kF code nats 5000 54 a54_12 (otabH tabsT3) (fun v _ => eqx 2 v v54_12) = true := by kernel_rfl
theorem right54_12 [Unk] : Right Tryz.prog tabsT3 54 (a54_12, v54_12) := right_in run54_12 (by kernel_rfl)
theorem run54_13 : kF code nats 5000 54 a54_13 (otabH tabsT3) (fun v _ => eqx 2 v v54_13) = true := by kernel_rfl
theorem right54_13 [Unk] : Right Tryz.prog tabsT3 54 (a54_13, v54_13) := right_in run54_13 (by kernel_rfl)
theorem run54_14 : kF code nats 5000 54 a54_14 (otabH tabsT3) (fun v _ => eqx 2 v v54_14) = true := by kernel_rfl
theorem right54_14 [Unk] : Right Tryz.prog tabsT3 54 (a54_14, v54_14) := right_in run54_14 (by kernel_rfl)
theorem run54_16 : kF code nats 5000 54 a54_16 (otabH tabsT3) (fun v _ => eqx 2 v v54_16) = true := by kernel_rfl
theorem right54_16 [Unk] : Right Tryz.prog tabsT3 54 (a54_16, v54_16) := right_in run54_16 (by kernel_rfl)
theorem run54_17 : kF code nats 5000 54 a54_17 (otabH tabsT3) (fun v _ => eqx 2 v v54_17) = true := by kernel_rfl
theorem right54_17 [Unk] : Right Tryz.prog tabsT3 54 (a54_17, v54_17) := right_in run54_17 (by kernel_rfl)
theorem run54_18 : kF code nats 5000 54 a54_18 (otabH tabsT3) (fun v _ => eqx 2 v v54_18) = true := by kernel_rfl
theorem right54_18 [Unk] : Right Tryz.prog tabsT3 54 (a54_18, v54_18) := right_in run54_18 (by kernel_rfl)
theorem run54_20 : kF code nats 5000 54 a54_20 (otabH tabsT3) (fun v _ => eqx 2 v v54_20) = true := by kernel_rfl
theorem right54_20 [Unk] : Right Tryz.prog tabsT3 54 (a54_20, v54_20) := right_in run54_20 (by kernel_rfl)
theorem run54_21 : kF code nats 5000 54 a54_21 (otabH tabsT3) (fun v _ => eqx 2 v v54_21) = true := by kernel_rfl
theorem right54_21 [Unk] : Right Tryz.prog tabsT3 54 (a54_21, v54_21) := right_in run54_21 (by kernel_rfl)
theorem run54_22 : kF code nats 5000 54 a54_22 (otabH tabsT3) (fun v _ => eqx 2 v v54_22) = true := by kernel_rfl
theorem right54_22 [Unk] : Right Tryz.prog tabsT3 54 (a54_22, v54_22) := right_in run54_22 (by kernel_rfl)
theorem run54_24 : kF code nats 5000 54 a54_24 (otabH tabsT3) (fun v _ => eqx 2 v v54_24) = true := by kernel_rfl
theorem right54_24 [Unk] : Right Tryz.prog tabsT3 54 (a54_24, v54_24) := right_in run54_24 (by kernel_rfl)
theorem run54_25 : kF code nats 5000 54 a54_25 (otabH tabsT3) (fun v _ => eqx 2 v v54_25) = true := by kernel_rfl
theorem right54_25 [Unk] : Right Tryz.prog tabsT3 54 (a54_25, v54_25) := right_in run54_25 (by kernel_rfl)
theorem run54_26 : kF code nats 5000 54 a54_26 (otabH tabsT3) (fun v _ => eqx 2 v v54_26) = true := by kernel_rfl
theorem right54_26 [Unk] : Right Tryz.prog tabsT3 54 (a54_26, v54_26) := right_in run54_26 (by kernel_rfl)
theorem run54_28 : kF code nats 5000 54 a54_28 (otabH tabsT3) (fun v _ => eqx 2 v v54_28) = true := by kernel_rfl
theorem right54_28 [Unk] : Right Tryz.prog tabsT3 54 (a54_28, v54_28) := right_in run54_28 (by kernel_rfl)
theorem run54_29 : kF code nats 5000 54 a54_29 (otabH tabsT3) (fun v _ => eqx 2 v v54_29) = true := by kernel_rfl
theorem right54_29 [Unk] : Right Tryz.prog tabsT3 54 (a54_29, v54_29) := right_in run54_29 (by kernel_rfl)
theorem run54_30 : kF code nats 5000 54 a54_30 (otabH tabsT3) (fun v _ => eqx 2 v v54_30) = true := by kernel_rfl
theorem right54_30 [Unk] : Right Tryz.prog tabsT3 54 (a54_30, v54_30) := right_in run54_30 (by kernel_rfl)
theorem run54_32 : kF code nats 5000 54 a54_32 (otabH tabsT3) (fun v _ => eqx 2 v v54_32) = true := by kernel_rfl
theorem right54_32 [Unk] : Right Tryz.prog tabsT3 54 (a54_32, v54_32) := right_in run54_32 (by kernel_rfl)
theorem run54_33 : kF code nats 5000 54 a54_33 (otabH tabsT3) (fun v _ => eqx 2 v v54_33) = true := by kernel_rfl
theorem right54_33 [Unk] : Right Tryz.prog tabsT3 54 (a54_33, v54_33) := right_in run54_33 (by kernel_rfl)
theorem run54_34 : kF code nats 5000 54 a54_34 (otabH tabsT3) (fun v _ => eqx 2 v v54_34) = true := by kernel_rfl
theorem right54_34 [Unk] : Right Tryz.prog tabsT3 54 (a54_34, v54_34) := right_in run54_34 (by kernel_rfl)
theorem run54_36 : kF code nats 5000 54 a54_36 (otabH tabsT3) (fun v _ => eqx 2 v v54_36) = true := by kernel_rfl
theorem right54_36 [Unk] : Right Tryz.prog tabsT3 54 (a54_36, v54_36) := right_in run54_36 (by kernel_rfl)
theorem run54_37 : kF code nats 5000 54 a54_37 (otabH tabsT3) (fun v _ => eqx 2 v v54_37) = true := by kernel_rfl
theorem right54_37 [Unk] : Right Tryz.prog tabsT3 54 (a54_37, v54_37) := right_in run54_37 (by kernel_rfl)
theorem run54_38 : kF code nats 5000 54 a54_38 (otabH tabsT3) (fun v _ => eqx 2 v v54_38) = true := by kernel_rfl
theorem right54_38 [Unk] : Right Tryz.prog tabsT3 54 (a54_38, v54_38) := right_in run54_38 (by kernel_rfl)
theorem run54_40 : kF code nats 5000 54 a54_40 (otabH tabsT3) (fun v _ => eqx 2 v v54_40) = true := by kernel_rfl
theorem right54_40 [Unk] : Right Tryz.prog tabsT3 54 (a54_40, v54_40) := right_in run54_40 (by kernel_rfl)
theorem run54_41 : kF code nats 5000 54 a54_41 (otabH tabsT3) (fun v _ => eqx 2 v v54_41) = true := by kernel_rfl
theorem right54_41 [Unk] : Right Tryz.prog tabsT3 54 (a54_41, v54_41) := right_in run54_41 (by kernel_rfl)
theorem run54_42 : kF code nats 5000 54 a54_42 (otabH tabsT3) (fun v _ => eqx 2 v v54_42) = true := by kernel_rfl
theorem right54_42 [Unk] : Right Tryz.prog tabsT3 54 (a54_42, v54_42) := right_in run54_42 (by kernel_rfl)
theorem run54_44 : kF code nats 5000 54 a54_44 (otabH tabsT3) (fun v _ => eqx 2 v v54_44) = true := by kernel_rfl
theorem right54_44 [Unk] : Right Tryz.prog tabsT3 54 (a54_44, v54_44) := right_in run54_44 (by kernel_rfl)
theorem run54_45 : kF code nats 5000 54 a54_45 (otabH tabsT3) (fun v _ => eqx 2 v v54_45) = true := by kernel_rfl
theorem right54_45 [Unk] : Right Tryz.prog tabsT3 54 (a54_45, v54_45) := right_in run54_45 (by kernel_rfl)
theorem run54_46 : kF code nats 5000 54 a54_46 (otabH tabsT3) (fun v _ => eqx 2 v v54_46) = true := by kernel_rfl
theorem right54_46 [Unk] : Right Tryz.prog tabsT3 54 (a54_46, v54_46) := right_in run54_46 (by kernel_rfl)
theorem run54_48 : kF code nats 5000 54 a54_48 (otabH tabsT3) (fun v _ => eqx 2 v v54_48) = true := by kernel_rfl
theorem right54_48 [Unk] : Right Tryz.prog tabsT3 54 (a54_48, v54_48) := right_in run54_48 (by kernel_rfl)
theorem run54_49 : kF code nats 5000 54 a54_49 (otabH tabsT3) (fun v _ => eqx 2 v v54_49) = true := by kernel_rfl
theorem right54_49 [Unk] : Right Tryz.prog tabsT3 54 (a54_49, v54_49) := right_in run54_49 (by kernel_rfl)
theorem run54_50 : kF code nats 5000 54 a54_50 (otabH tabsT3) (fun v _ => eqx 2 v v54_50) = true := by kernel_rfl
theorem right54_50 [Unk] : Right Tryz.prog tabsT3 54 (a54_50, v54_50) := right_in run54_50 (by kernel_rfl)
theorem run54_52 : kF code nats 5000 54 a54_52 (otabH tabsT3) (fun v _ => eqx 2 v v54_52) = true := by kernel_rfl
theorem right54_52 [Unk] : Right Tryz.prog tabsT3 54 (a54_52, v54_52) := right_in run54_52 (by kernel_rfl)
theorem run54_53 : kF code nats 5000 54 a54_53 (otabH tabsT3) (fun v _ => eqx 2 v v54_53) = true := by kernel_rfl
theorem right54_53 [Unk] : Right Tryz.prog tabsT3 54 (a54_53, v54_53) := right_in run54_53 (by kernel_rfl)
theorem run54_54 : kF code nats 5000 54 a54_54 (otabH tabsT3) (fun v _ => eqx 2 v v54_54) = true := by kernel_rfl
theorem right54_54 [Unk] : Right Tryz.prog tabsT3 54 (a54_54, v54_54) := right_in run54_54 (by kernel_rfl)
theorem run54_56 : kF code nats 5000 54 a54_56 (otabH tabsT3) (fun v _ => eqx 2 v v54_56) = true := by kernel_rfl
theorem right54_56 [Unk] : Right Tryz.prog tabsT3 54 (a54_56, v54_56) := right_in run54_56 (by kernel_rfl)
theorem run54_57 : kF code nats 5000 54 a54_57 (otabH tabsT3) (fun v _ => eqx 2 v v54_57) = true := by kernel_rfl
theorem right54_57 [Unk] : Right Tryz.prog tabsT3 54 (a54_57, v54_57) := right_in run54_57 (by kernel_rfl)
theorem run117_0 : kF code nats 5000 117 a117_0 (otabH tabsT) (fun v _ => eqx 2 v v117_0) = true := by kernel_rfl
theorem right117_0 [Unk] : Right Tryz.prog tabsT 117 (a117_0, v117_0) := right_in run117_0 (by kernel_rfl)
end Go.Proofs.YtainaihfbljjoaaGreatDoor
