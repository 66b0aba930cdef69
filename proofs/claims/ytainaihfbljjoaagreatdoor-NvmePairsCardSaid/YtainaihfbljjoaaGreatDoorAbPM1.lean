/- Answers told ahead: their runs. -/
import Derived.Test.YtainaihfbljjoaaGreatDoorAbPM
set_option linter.all false
set_option linter.unusedSectionVars false
set_option linter.unusedVariables false
set_option linter.unusedSimpArgs false
namespace Go.Proofs.YtainaihfbljjoaaGreatDoor
open Go Go.Ab Go.Proofs Go.RowKit
set_option maxRecDepth 1000000

theorem run54_58 : kF code nats 5000 54 a54_58 (otabH tabsT3) (fun v _ => eqx 2 v v54_58) = true := by kernel_rfl
theorem right54_58 [Unk] : Right Tryz.prog tabsT3 54 (a54_58, v54_58) := right_in run54_58 (by kernel_rfl)
theorem run54_3 : kF code nats 5000 54 a54_3 (otabH tabsT3) (fun v _ => eqx 2 v v54_3) = true := by kernel_rfl
theorem right54_3 [Unk] : Right Tryz.prog tabsT3 54 (a54_3, v54_3) := right_in run54_3 (by kernel_rfl)
theorem run54_7 : kF code nats 5000 54 a54_7 (otabH tabsT3) (fun v _ => eqx 2 v v54_7) = true := by kernel_rfl
theorem right54_7 [Unk] : Right Tryz.prog tabsT3 54 (a54_7, v54_7) := right_in run54_7 (by kernel_rfl)
theorem run54_11 : kF code nats 5000 54 a54_11 (otabH tabsT3) (fun v _ => eqx 2 v v54_11) = true := by kernel_rfl
theorem right54_11 [Unk] : Right Tryz.prog tabsT3 54 (a54_11, v54_11) := right_in run54_11 (by kernel_rfl)
theorem run54_15 : kF code nats 5000 54 a54_15 (otabH tabsT3) (fun v _ => eqx 2 v v54_15) = true := by kernel_rfl
theorem right54_15 [Unk] : Right Tryz.prog tabsT3 54 (a54_15, v54_15) := right_in run54_15 (by kernel_rfl)
theorem run54_19 : kF code nats 5000 54 a54_19 (otabH tabsT3) (fun v _ => eqx 2 v v54_19) = true := by kernel_rfl
theorem right54_19 [Unk] : Right Tryz.prog tabsT3 54 (a54_19, v54_19) := right_in run54_19 (by kernel_rfl)
theorem run54_23 : kF code nats 5000 54 a54_23 (otabH tabsT3) (fun v _ => eqx 2 v v54_23) = true := by kernel_rfl
theorem right54_23 [Unk] : Right Tryz.prog tabsT3 54 (a54_23, v54_23) := right_in run54_23 (by kernel_rfl)
theorem run54_27 : kF code nats 5000 54 a54_27 (otabH tabsT3) (fun v _ => eqx 2 v v54_27) = true := by kernel_rfl
theorem right54_27 [Unk] : Right Tryz.prog tabsT3 54 (a54_27, v54_27) := right_in run54_27 (by kernel_rfl)
theorem run54_31 : kF code nats 5000 54 a54_31 (otabH tabsT3) (fun v _ => eqx 2 v v54_31) = true := by kernel_rfl
theorem right54_31 [Unk] : Right Tryz.prog tabsT3 54 (a54_31, v54_31) := right_in run54_31 (by kernel_rfl)
theorem run54_35 : kF code nats 5000 54 a54_35 (otabH tabsT3) (fun v _ => eqx 2 v v54_35) = true := by kernel_rfl
theorem right54_35 [Unk] : Right Tryz.prog tabsT3 54 (a54_35, v54_35) := right_in run54_35 (by kernel_rfl)
theorem run54_39 : kF code nats 5000 54 a54_39 (otabH tabsT3) (fun v _ => eqx 2 v v54_39) = true := by kernel_rfl
theorem right54_39 [Unk] : Right Tryz.prog tabsT3 54 (a54_39, v54_39) := right_in run54_39 (by kernel_rfl)
theorem run54_43 : kF code nats 5000 54 a54_43 (otabH tabsT3) (fun v _ => eqx 2 v v54_43) = true := by kernel_rfl
theorem right54_43 [Unk] : Right Tryz.prog tabsT3 54 (a54_43, v54_43) := right_in run54_43 (by kernel_rfl)
theorem run54_47 : kF code nats 5000 54 a54_47 (otabH tabsT3) (fun v _ => eqx 2 v v54_47) = true := by kernel_rfl
theorem right54_47 [Unk] : Right Tryz.prog tabsT3 54 (a54_47, v54_47) := right_in run54_47 (by kernel_rfl)
theorem run54_51 : kF code nats 5000 54 a54_51 (otabH tabsT3) (fun v _ => eqx 2 v v54_51) = true := by kernel_rfl
theorem right54_51 [Unk] : Right Tryz.prog tabsT3 54 (a54_51, v54_51) := right_in run54_51 (by kernel_rfl)
theorem run54_55 : kF code nats 5000 54 a54_55 (otabH tabsT3) (fun v _ => eqx 2 v v54_55) = true := by kernel_rfl
theorem right54_55 [Unk] : Right Tryz.prog tabsT3 54 (a54_55, v54_55) := right_in run54_55 (by kernel_rfl)
theorem run54_59 : kF code nats 5000 54 a54_59 (otabH tabsT3) (fun v _ => eqx 2 v v54_59) = true := by kernel_rfl
theorem right54_59 [Unk] : Right Tryz.prog tabsT3 54 (a54_59, v54_59) := right_in run54_59 (by kernel_rfl)
theorem run147_0 : kF code nats 5000 147 a147_0 (otabH tabsT7) (fun v _ => eqx 2 v v147_0) = true := by kernel_rfl
theorem right147_0 [Unk] : Right Tryz.prog tabsT7 147 (a147_0, v147_0) := right_in run147_0 (by kernel_rfl)
theorem run17_0 : kF code nats 5000 17 a17_0 (otabH tabsT3) (fun v _ => eqx 2 v v17_0) = true := by kernel_rfl
theorem right17_0 [Unk] : Right Tryz.prog tabsT3 17 (a17_0, v17_0) := right_in run17_0 (by kernel_rfl)
theorem run17_1 : kF code nats 5000 17 a17_1 (otabH tabsT3) (fun v _ => eqx 2 v v17_1) = true := by kernel_rfl
theorem right17_1 [Unk] : Right Tryz.prog tabsT3 17 (a17_1, v17_1) := right_in run17_1 (by kernel_rfl)
theorem run17_2 : kF code nats 5000 17 a17_2 (otabH tabsT3) (fun v _ => eqx 2 v v17_2) = true := by kernel_rfl
theorem right17_2 [Unk] : Right Tryz.prog tabsT3 17 (a17_2, v17_2) := right_in run17_2 (by kernel_rfl)
theorem run17_4 : kF code nats 5000 17 a17_4 (otabH tabsT3) (fun v _ => eqx 2 v v17_4) = true := by kernel_rfl
theorem right17_4 [Unk] : Right Tryz.prog tabsT3 17 (a17_4, v17_4) := right_in run17_4 (by kernel_rfl)
theorem run17_5 : kF code nats 5000 17 a17_5 (otabH tabsT3) (fun v _ => eqx 2 v v17_5) = true := by kernel_rfl
theorem right17_5 [Unk] : Right Tryz.prog tabsT3 17 (a17_5, v17_5) := right_in run17_5 (by kernel_rfl)
theorem run17_6 : kF code nats 5000 17 a17_6 (otabH tabsT3) (fun v _ => eqx 2 v v17_6) = true := by kernel_rfl
theorem right17_6 [Unk] : Right Tryz.prog tabsT3 17 (a17_6, v17_6) := right_in run17_6 (by kernel_rfl)
theorem run17_8 : kF code nats 5000 17 a17_8 (otabH tabsT3) (fun v _ => eqx 2 v v17_8) = true := by kernel_rfl
theorem right17_8 [Unk] : Right Tryz.prog tabsT3 17 (a17_8, v17_8) := right_in run17_8 (by kernel_rfl)
theorem run17_9 : kF code nats 5000 17 a17_9 (otabH tabsT3) (fun v _ => eqx 2 v v17_9) = true := by kernel_rfl
theorem right17_9 [Unk] : Right Tryz.prog tabsT3 17 (a17_9, v17_9) := right_in run17_9 (by kernel_rfl)
theorem run17_10 : kF code nats 5000 17 a17_10 (otabH tabsT3) (fun v _ => eqx 2 v v17_10) = true := by kernel_rfl
theorem right17_10 [Unk] : Right Tryz.prog tabsT3 17 (a17_10, v17_10) := right_in run17_10 (by kernel_rfl)
theorem run17_12 : kF code nats 5000 17 a17_12 (otabH tabsT3) (fun v _ => eqx 2 v v17_12) = true := by kernel_rfl
theorem right17_12 [Unk] : Right Tryz.prog tabsT3 17 (a17_12, v17_12) := right_in run17_12 (by kernel_rfl)
theorem run17_13 : kF code nats 5000 17 a17_13 (otabH tabsT3) (fun v _ => eqx 2 v v17_13) = true := by kernel_rfl
theorem right17_13 [Unk] : Right Tryz.prog tabsT3 17 (a17_13, v17_13) := right_in run17_13 (by kernel_rfl)
theorem run17_14 : kF code nats 5000 17 a17_14 (otabH tabsT3) (fun v _ => eqx 2 v v17_14) = true := by kernel_rfl
theorem right17_14 [Unk] : Right Tryz.prog tabsT3 17 (a17_14, v17_14) := right_in run17_14 (by kernel_rfl)
theorem run17_16 : kF code nats 5000 17 a17_16 (otabH tabsT3) (fun v _ => eqx 2 v v17_16) = true := by kernel_rfl
theorem right17_16 [Unk] : Right Tryz.prog tabsT3 17 (a17_16, v17_16) := right_in run17_16 (by kernel_rfl)
theorem run17_17 : kF code nats 5000 17 a17_17 (otabH tabsT3) (fun v _ => eqx 2 v v17_17) = true := by kernel_rfl
theorem right17_17 [Unk] : Right Tryz.prog tabsT3 17 (a17_17, v17_17) := right_in run17_17 (by kernel_rfl)
theorem run17_18 : kF code nats 5000 17 a17_18 (otabH tabsT3) (fun v _ => eqx 2 v v17_18) = true := by kernel_rfl
theorem right17_18 [Unk] : Right Tryz.prog tabsT3 17 (a17_18, v17_18) := right_in run17_18 (by kernel_rfl)
theorem run17_20 : kF code nats 5000 17 a17_20 (otabH tabsT3) (fun v _ => eqx 2 v v17_20) = true := by kernel_rfl
theorem right17_20 [Unk] : Right Tryz.prog tabsT3 17 (a17_20, v17_20) := right_in run17_20 (by kernel_rfl)
theorem run17_21 : kF code nats 5000 17 a17_21 (otabH tabsT3) (fun v _ => eqx 2 v v17_21) = true := by kernel_rfl
theorem right17_21 [Unk] : Right Tryz.prog tabsT3 17 (a17_21, v17_21) := right_in run17_21 (by kernel_rfl)
theorem run17_22 : kF code nats 5000 17 a17_22 (otabH tabsT3) (fun v _ => eqx 2 v v17_22) = true := by kernel_rfl
theorem right17_22 [Unk] : Right Tryz.prog tabsT3 17 (a17_22, v17_22) := right_in run17_22 (by kernel_rfl)
theorem run17_24 : kF code nats 5000 17 a17_24 (otabH tabsT3) (fun v _ => eqx 2 v v17_24) = true := by kernel_rfl
theorem right17_24 [Unk] : Right Tryz.prog tabsT3 17 (a17_24, v17_24) := right_in run17_24 (by kernel_rfl)
theorem run17_25 : kF code nats 5000 17 a17_25 (otabH tabsT3) (fun v _ => eqx 2 v v17_25) = true := by kernel_rfl
theorem right17_25 [Unk] : Right Tryz.prog tabsT3 17 (a17_25, v17_25) := right_in run17_25 (by kernel_rfl)
theorem run17_26 : kF code nats 5000 17 a17_26 (otabH tabsT3) (fun v _ => eqx 2 v v17_26) = true := by kernel_rfl
theorem right17_26 [Unk] : Right Tryz.prog tabsT3 17 (a17_26, v17_26) := right_in run17_26 (by kernel_rfl)
theorem run17_28 : kF code nats 5000 17 a17_28 (otabH tabsT3) (fun v _ => eqx 2 v v17_28) = true := by kernel_rfl
theorem right17_28 [Unk] : Right Tryz.prog tabsT3 17 (a17_28, v17_28) := right_in run17_28 (by kernel_rfl)
theorem run17_29 : kF code nats 5000 17 a17_29 (otabH tabsT3) (fun v _ => eqx 2 v v17_29) = true := by kernel_rfl
theorem right17_29 [Unk] : Right Tryz.prog tabsT3 17 (a17_29, v17_29) := right_in run17_29 (by kernel_rfl)
theorem run17_30 : kF code nats 5000 17 a17_30 (otabH tabsT3) (fun v _ => eqx 2 v v17_30) = true := by kernel_rfl
theorem right17_30 [Unk] : Right Tryz.prog tabsT3 17 (a17_30, v17_30) := right_in run17_30 (by kernel_rfl)
theorem run17_32 : kF code nats 5000 17 a17_32 (otabH tabsT3) (fun v _ => eqx 2 v v17_32) = true := by kernel_rfl
theorem right17_32 [Unk] : Right Tryz.prog tabsT3 17 (a17_32, v17_32) := right_in run17_32 (by kernel_rfl)
theorem run17_33 : kF code nats 5000 17 a17_33 (otabH tabsT3) (fun v _ => eqx 2 v v17_33) = true := by kernel_rfl
theorem right17_33 [Unk] : Right Tryz.prog tabsT3 17 (a17_33, v17_33) := right_in run17_33 (by kernel_rfl)
theorem run17_34 : kF code nats 5000 17 a17_34 (otabH tabsT3) (fun v _ => eqx 2 v v17_34) = true := by kernel_rfl
theorem right17_34 [Unk] : Right Tryz.prog tabsT3 17 (a17_34, v17_34) := right_in run17_34 (by kernel_rfl)
theorem run17_36 : kF code nats 5000 17 a17_36 (otabH tabsT3) (fun v _ => eqx 2 v v17_36) = true := by kernel_rfl
theorem right17_36 [Unk] : Right Tryz.prog tabsT3 17 (a17_36, v17_36) := right_in run17_36 (by kernel_rfl)
theorem run17_37 : kF code nats 5000 17 a17_37 (otabH tabsT3) (fun v _ => eqx 2 v v17_37) = true := by kernel_rfl
theorem right17_37 [Unk] : Right Tryz.prog tabsT3 17 (a17_37, v17_37) := right_in run17_37 (by kernel_rfl)
theorem run17_38 : kF code nats 5000 17 a17_38 (otabH tabsT3) (fun v _ => eqx 2 v v17_38) = true := by kernel_rfl
theorem right17_38 [Unk] : Right Tryz.prog tabsT3 17 (a17_38, v17_38) := right_in run17_38 (by kernel_rfl)
theorem run17_40 : kF code nats 5000 17 a17_40 (otabH tabsT3) (fun v _ => eqx 2 v v17_40) = true := by kernel_rfl
theorem right17_40 [Unk] : Right Tryz.prog tabsT3 17 (a17_40, v17_40) := right_in run17_40 (by kernel_rfl)
theorem run17_41 : kF code nats 5000 17 a17_41 (otabH tabsT3) (fun v _ => eqx 2 v v17_41) = true := by kernel_rfl
theorem right17_41 [Unk] : Right Tryz.prog tabsT3 17 (a17_41, v17_41) := right_in run17_41 (by kernel_rfl)
theorem run17_42 : kF code nats 5000 17 a17_42 (otabH tabsT3) (fun v _ => eqx 2 v v17_42) = true := by kernel_rfl
theorem right17_42 [Unk] : Right Tryz.prog tabsT3 17 (a17_42, v17_42) := right_in run17_42 (by kernel_rfl)
theorem run17_44 : kF code nats 5000 17 a17_44 (otabH tabsT3) (fun v _ => eqx 2 v v17_44) = true := by kernel_rfl
theorem right17_44 [Unk] : Right Tryz.prog tabsT3 17 (a17_44, v17_44) := right_in run17_44 (by kernel_rfl)
theorem run17_45 : kF code nats 5000 17 a17_45 (otabH tabsT3) (fun v _ => eqx 2 v v17_45) = true := by kernel_rfl
theorem right17_45 [Unk] : Right Tryz.prog tabsT3 17 (a17_45, v17_45) := right_in run17_45 (by kernel_rfl)
theorem run17_46 : kF code nats 5000 17 a17_46 (otabH tabsT3) (fun v _ => eqx 2 v v17_46) = true := by kernel_rfl
theorem right17_46 [Unk] : Right Tryz.prog tabsT3 17 (a17_46, v17_46) := right_in run17_46 (by kernel_rfl)
theorem run17_48 : kF code nats 5000 17 a17_48 (otabH tabsT3) (fun v _ => eqx 2 v v17_48) = true := by kernel_rfl
theorem right17_48 [Unk] : Right Tryz.prog tabsT3 17 (a17_48, v17_48) := right_in run17_48 (by kernel_rfl)
theorem run17_49 : kF code nats 5000 17 a17_49 (otabH tabsT3) (fun v _ => eqx 2 v v17_49) = true := by kernel_rfl
theorem right17_49 [Unk] : Right Tryz.prog tabsT3 17 (a17_49, v17_49) := right_in run17_49 (by kernel_rfl)
theorem run17_50 : kF code nats 5000 17 a17_50 (otabH tabsT3) (fun v _ => eqx 2 v v17_50) = true := by kernel_rfl
theorem right17_50 [Unk] : Right Tryz.prog tabsT3 17 (a17_50, v17_50) := right_in run17_50 (by kernel_rfl)
theorem run17_52 : kF code nats 5000 17 a17_52 (otabH tabsT3) (fun v _ => eqx 2 v v17_52) = true := by kernel_rfl
theorem right17_52 [Unk] : Right Tryz.prog tabsT3 17 (a17_52, v17_52) := right_in run17_52 (by kernel_rfl)
theorem run17_53 : kF code nats 5000 17 a17_53 (otabH tabsT3) (fun v _ => eqx 2 v v17_53) = true := by kernel_rfl
theorem right17_53 [Unk] : Right Tryz.prog tabsT3 17 (a17_53, v17_53) := right_in run17_53 (by kernel_rfl)
theorem run17_54 : kF code nats 5000 17 a17_54 (otabH tabsT3) (fun v _ => eqx 2 v v17_54) = true := by kernel_rfl
theorem right17_54 [Unk] : Right Tryz.prog tabsT3 17 (a17_54, v17_54) := right_in run17_54 (by kernel_rfl)
theorem run17_56 : kF code nats 5000 17 a17_56 (otabH tabsT3) (fun v _ => eqx 2 v v17_56) = true := by kernel_rfl
theorem right17_56 [Unk] : Right Tryz.prog tabsT3 17 (a17_56, v17_56) := right_in run17_56 (by kernel_rfl)
theorem run17_57 : kF code nats 5000 17 a17_57 (otabH tabsT3) (fun v _ => eqx 2 v v17_57) = true := by kernel_rfl
theorem right17_57 [Unk] : Right Tryz.prog tabsT3 17 (a17_57, v17_57) := right_in run17_57 (by kernel_rfl)
theorem run17_58 : kF code nats 5000 17 a17_58 (otabH tabsT3) (fun v _ => eqx 2 v v17_58) = true := by kernel_rfl
theorem right17_58 [Unk] : Right Tryz.prog tabsT3 17 (a17_58, v17_58) := right_in run17_58 (by kernel_rfl)
theorem run17_3 : kF code nats 5000 17 a17_3 (otabH tabsT3) (fun v _ => eqx 2 v v17_3) = true := by kernel_rfl
theorem right17_3 [Unk] : Right Tryz.prog tabsT3 17 (a17_3, v17_3) := right_in run17_3 (by kernel_rfl)
theorem run17_7 : kF code nats 5000 17 a17_7 (otabH tabsT3) (fun v _ => eqx 2 v v17_7) = true := by kernel_rfl
theorem right17_7 [Unk] : Right Tryz.prog tabsT3 17 (a17_7, v17_7) := right_in run17_7 (by kernel_rfl)
theorem run17_11 : kF code nats 5000 17 a17_11 (otabH tabsT3) (fun v _ => eqx 2 v v17_11) = true := by kernel_rfl
theorem right17_11 [Unk] : Right Tryz.prog tabsT3 17 (a17_11, v17_11) := right_in run17_11 (by kernel_rfl)
theorem run17_15 : kF code nats 5000 17 a17_15 (otabH tabsT3) (fun v _ => eqx 2 v v17_15) = true := by kernel_rfl
theorem right17_15 [Unk] : Right Tryz.prog tabsT3 17 (a17_15, v17_15) := right_in run17_15 (by kernel_rfl)
theorem run17_19 : kF code nats 5000 17 a17_19 (otabH tabsT3) (fun v _ => eqx 2 v v17_19) = true := by kernel_rfl
theorem right17_19 [Unk] : Right Tryz.prog tabsT3 17 (a17_19, v17_19) := right_in run17_19 (by kernel_rfl)
theorem run17_23 : kF code nats 5000 17 a17_23 (otabH tabsT3) (fun v _ => eqx 2 v v17_23) = true := by kernel_rfl
theorem right17_23 [Unk] : Right Tryz.prog tabsT3 17 (a17_23, v17_23) := right_in run17_23 (by kernel_rfl)
theorem run17_27 : kF code nats 5000 17 a17_27 (otabH tabsT3) (fun v _ => eqx 2 v v17_27) = true := by kernel_rfl
theorem right17_27 [Unk] : Right Tryz.prog tabsT3 17 (a17_27, v17_27) := right_in run17_27 (by kernel_rfl)
theorem run17_31 : kF code nats 5000 17 a17_31 (otabH tabsT3) (fun v _ => eqx 2 v v17_31) = true := by kernel_rfl
theorem right17_31 [Unk] : Right Tryz.prog tabsT3 17 (a17_31, v17_31) := right_in run17_31 (by kernel_rfl)
theorem run17_35 : kF code nats 5000 17 a17_35 (otabH tabsT3) (fun v _ => eqx 2 v v17_35) = true := by kernel_rfl
theorem right17_35 [Unk] : Right Tryz.prog tabsT3 17 (a17_35, v17_35) := right_in run17_35 (by kernel_rfl)
theorem run17_39 : kF code nats 5000 17 a17_39 (otabH tabsT3) (fun v _ => eqx 2 v v17_39) = true := by kernel_rfl
theorem right17_39 [Unk] : Right Tryz.prog tabsT3 17 (a17_39, v17_39) := right_in run17_39 (by kernel_rfl)
theorem run17_43 : kF code nats 5000 17 a17_43 (otabH tabsT3) (fun v _ => eqx 2 v v17_43) = true := by kernel_rfl
theorem right17_43 [Unk] : Right Tryz.prog tabsT3 17 (a17_43, v17_43) := right_in run17_43 (by kernel_rfl)
theorem run17_47 : kF code nats 5000 17 a17_47 (otabH tabsT3) (fun v _ => eqx 2 v v17_47) = true := by kernel_rfl
theorem right17_47 [Unk] : Right Tryz.prog tabsT3 17 (a17_47, v17_47) := right_in run17_47 (by kernel_rfl)
theorem run17_51 : kF code nats 5000 17 a17_51 (otabH tabsT3) (fun v _ => eqx 2 v v17_51) = true := by kernel_rfl
theorem right17_51 [Unk] : Right Tryz.prog tabsT3 17 (a17_51, v17_51) := right_in run17_51 (by kernel_rfl)
theorem run17_55 : kF code nats 5000 17 a17_55 (otabH tabsT3) (fun v _ => eqx 2 v v17_55) = true := by kernel_rfl
theorem right17_55 [Unk] : Right Tryz.prog tabsT3 17 (a17_55, v17_55) := right_in run17_55 (by kernel_rfl)
theorem run17_59 : kF code nats 5000 17 a17_59 (otabH tabsT3) (fun v _ => eqx 2 v v17_59) = true := by kernel_rfl
theorem right17_59 [Unk] : Right Tryz.prog tabsT3 17 (a17_59, v17_59) := right_in run17_59 (by kernel_rfl)
theorem run147_1 : kF code nats 5000 147 a147_1 (otabH tabsT7) (fun v _ => eqx 2 v v147_1) = true := by kernel_rfl
theorem right147_1 [Unk] : Right Tryz.prog tabsT7 147 (a147_1, v147_1) := right_in run147_1 (by kernel_rfl)
theorem run147_2 : kF code nats 5000 147 a147_2 (otabH tabsT7) (fun v _ => eqx 2 v v147_2) = true := by kernel_rfl
theorem right147_2 [Unk] : Right Tryz.prog tabsT7 147 (a147_2, v147_2) := right_in run147_2 (by kernel_rfl)
theorem run147_3 : kF code nats 5000 147 a147_3 (otabH tabsT7) (fun v _ => eqx 2 v v147_3) = true := by kernel_rfl
theorem right147_3 [Unk] : Right Tryz.prog tabsT7 147 (a147_3, v147_3) := right_in run147_3 (by kernel_rfl)
theorem run147_4 : kF code nats 5000 147 a147_4 (otabH tabsT7) (fun v _ => eqx 2 v v147_4) = true := by kernel_rfl
theorem right147_4 [Unk] : Right Tryz.prog tabsT7 147 (a147_4, v147_4) := right_in run147_4 (by kernel_rfl)
theorem run147_5 : kF code nats 5000 147 a147_5 (otabH tabsT7) (fun v _ => eqx 2 v v147_5) = true := by kernel_rfl
theorem right147_5 [Unk] : Right Tryz.prog tabsT7 147 (a147_5, v147_5) := right_in run147_5 (by kernel_rfl)
theorem run147_6 : kF code nats 5000 147 a147_6 (otabH tabsT7) (fun v _ => eqx 2 v v147_6) = true := by kernel_rfl
theorem right147_6 [Unk] : Right Tryz.prog tabsT7 147 (a147_6, v147_6) := right_in run147_6 (by kernel_rfl)
theorem run147_7 : kF code nats 5000 147 a147_7 (otabH tabsT7) (fun v _ => eqx 2 v v147_7) = true := by kernel_rfl
theorem right147_7 [Unk] : Right Tryz.prog tabsT7 147 (a147_7, v147_7) := right_in run147_7 (by kernel_rfl)
theorem run147_8 : kF code nats 5000 147 a147_8 (otabH tabsT7) (fun v _ => eqx 2 v v147_8) = true := by kernel_rfl
theorem right147_8 [Unk] : Right Tryz.prog tabsT7 147 (a147_8, v147_8) := right_in run147_8 (by kernel_rfl)
theorem run147_9 : kF code nats 5000 147 a147_9 (otabH tabsT7) (fun v _ => eqx 2 v v147_9) = true := by kernel_rfl
theorem right147_9 [Unk] : Right Tryz.prog tabsT7 147 (a147_9, v147_9) := right_in run147_9 (by kernel_rfl)
theorem run43_0 : kF code nats 5000 43 a43_0 (otabH tabsT) (fun v _ => eqx 2 v v43_0) = true := by kernel_rfl
theorem right43_0 [Unk] : Right Tryz.prog tabsT 43 (a43_0, v43_0) := right_in run43_0 (by kernel_rfl)
theorem run124_0 : kF code nats 5000 124 a124_0 (otabH tabsT) (fun v _ => eqx 2 v v124_0) = true := by kernel_rfl
theorem right124_0 [Unk] : Right Tryz.prog tabsT 124 (a124_0, v124_0) := right_in run124_0 (by kernel_rfl)
theorem run124_1 : kF code nats 5000 124 a124_1 (otabH tabsT) (fun v _ => eqx 2 v v124_1) = true := by kernel_rfl
theorem right124_1 [Unk] : Right Tryz.prog tabsT 124 (a124_1, v124_1) := right_in run124_1 (by kernel_rfl)
theorem run124_2 : kF code nats 5000 124 a124_2 (otabH tabsT) (fun v _ => eqx 2 v v124_2) = true := by kernel_rfl
theorem right124_2 [Unk] : Right Tryz.prog tabsT 124 (a124_2, v124_2) := right_in run124_2 (by kernel_rfl)
theorem run117_5 : kF code nats 5000 117 a117_5 (otabH tabsT) (fun v _ => eqx 2 v v117_5) = true := by kernel_rfl
theorem right117_5 [Unk] : Right Tryz.prog tabsT 117 (a117_5, v117_5) := right_in run117_5 (by kernel_rfl)
theorem run117_8 : kF code nats 5000 117 a117_8 (otabH tabsT) (fun v _ => eqx 2 v v117_8) = true := by kernel_rfl
theorem right117_8 [Unk] : Right Tryz.prog tabsT 117 (a117_8, v117_8) := right_in run117_8 (by kernel_rfl)
theorem run82_0 : kF code nats 5000 82 a82_0 (otabH tabsT) (fun v _ => eqx 2 v v82_0) = true := by kernel_rfl
theorem right82_0 [Unk] : Right Tryz.prog tabsT 82 (a82_0, v82_0) := right_in run82_0 (by kernel_rfl)
theorem run82_1 : kF code nats 5000 82 a82_1 (otabH tabsT) (fun v _ => eqx 2 v v82_1) = true := by kernel_rfl
theorem right82_1 [Unk] : Right Tryz.prog tabsT 82 (a82_1, v82_1) := right_in run82_1 (by kernel_rfl)
theorem run82_2 : kF code nats 5000 82 a82_2 (otabH tabsT) (fun v _ => eqx 2 v v82_2) = true := by kernel_rfl
theorem right82_2 [Unk] : Right Tryz.prog tabsT 82 (a82_2, v82_2) := right_in run82_2 (by kernel_rfl)
theorem run82_3 : kF code nats 5000 82 a82_3 (otabH tabsT) (fun v _ => eqx 2 v v82_3) = true := by kernel_rfl
theorem right82_3 [Unk] : Right Tryz.prog tabsT 82 (a82_3, v82_3) := right_in run82_3 (by kernel_rfl)
theorem run82_4 : kF code nats 5000 82 a82_4 (otabH tabsT) (fun v _ => eqx 2 v v82_4) = true := by kernel_rfl
theorem right82_4 [Unk] : Right Tryz.prog tabsT 82 (a82_4, v82_4) := right_in run82_4 (by kernel_rfl)
theorem run82_5 : kF code nats 5000 82 a82_5 (otabH tabsT) (fun v _ => eqx 2 v v82_5) = true := by kernel_rfl
theorem right82_5 [Unk] : Right Tryz.prog tabsT 82 (a82_5, v82_5) := right_in run82_5 (by kernel_rfl)
theorem run82_6 : kF code nats 5000 82 a82_6 (otabH tabsT) (fun v _ => eqx 2 v v82_6) = true := by kernel_rfl
theorem right82_6 [Unk] : Right Tryz.prog tabsT 82 (a82_6, v82_6) := right_in run82_6 (by kernel_rfl)
theorem run82_7 : kF code nats 5000 82 a82_7 (otabH tabsT) (fun v _ => eqx 2 v v82_7) = true := by kernel_rfl
theorem right82_7 [Unk] : Right Tryz.prog tabsT 82 (a82_7, v82_7) := right_in run82_7 (by kernel_rfl)
theorem run82_8 : kF code nats 5000 82 a82_8 (otabH tabsT) (fun v _ => eqx 2 v v82_8) = true := by kernel_rfl
theorem right82_8 [Unk] : Right Tryz.prog tabsT 82 (a82_8, v82_8) := right_in run82_8 (by kernel_rfl)
theorem run82_9 : kF code nats 5000 82 a82_9 (otabH tabsT) (fun v _ => eqx 2 v v82_9) = true := by kernel_rfl
theorem right82_9 [Unk] : Right Tryz.prog tabsT 82 (a82_9, v82_9) := right_in run82_9 (by kernel_rfl)
theorem run82_10 : kF code nats 5000 82 a82_10 (otabH tabsT) (fun v _ => eqx 2 v v82_10) = true := by kernel_rfl
theorem right82_10 [Unk] : Right Tryz.prog tabsT 82 (a82_10, v82_10) := right_in run82_10 (by kernel_rfl)
theorem run82_11 : kF code nats 5000 82 a82_11 (otabH tabsT) (fun v _ => eqx 2 v v82_11) = true := by kernel_rfl
theorem right82_11 [Unk] : Right Tryz.prog tabsT 82 (a82_11, v82_11) := right_in run82_11 (by kernel_rfl)
theorem run82_12 : kF code nats 5000 82 a82_12 (otabH tabsT) (fun v _ => eqx 2 v v82_12) = true := by kernel_rfl
theorem right82_12 [Unk] : Right Tryz.prog tabsT 82 (a82_12, v82_12) := right_in run82_12 (by kernel_rfl)
theorem run82_13 : kF code nats 5000 82 a82_13 (otabH tabsT) (fun v _ => eqx 2 v v82_13) = true := by kernel_rfl
theorem right82_13 [Unk] : Right Tryz.prog tabsT 82 (a82_13, v82_13) := right_in run82_13 (by kernel_rfl)
theorem run82_14 : kF code nats 5000 82 a82_14 (otabH tabsT) (fun v _ => eqx 2 v v82_14) = true := by kernel_rfl
theorem right82_14 [Unk] : Right Tryz.prog tabsT 82 (a82_14, v82_14) := right_in run82_14 (by kernel_rfl)
theorem run82_15 : kF code nats 5000 82 a82_15 (otabH tabsT) (fun v _ => eqx 2 v v82_15) = true := by kernel_rfl
theorem right82_15 [Unk] : Right Tryz.prog tabsT 82 (a82_15, v82_15) := right_in run82_15 (by kernel_rfl)
theorem run82_16 : kF code nats 5000 82 a82_16 (otabH tabsT) (fun v _ => eqx 2 v v82_16) = true := by kernel_rfl
theorem right82_16 [Unk] : Right Tryz.prog tabsT 82 (a82_16, v82_16) := right_in run82_16 (by kernel_rfl)
theorem run82_17 : kF code nats 5000 82 a82_17 (otabH tabsT) (fun v _ => eqx 2 v v82_17) = true := by kernel_rfl
theorem right82_17 [Unk] : Right Tryz.prog tabsT 82 (a82_17, v82_17) := right_in run82_17 (by kernel_rfl)
theorem run82_18 : kF code nats 5000 82 a82_18 (otabH tabsT) (fun v _ => eqx 2 v v82_18) = true := by kernel_rfl
theorem right82_18 [Unk] : Right Tryz.prog tabsT 82 (a82_18, v82_18) := right_in run82_18 (by kernel_rfl)
theorem run82_19 : kF code nats 5000 82 a82_19 (otabH tabsT) (fun v _ => eqx 2 v v82_19) = true := by kernel_rfl
theorem right82_19 [Unk] : Right Tryz.prog tabsT 82 (a82_19, v82_19) := right_in run82_19 (by kernel_rfl)
theorem run82_20 : kF code nats 5000 82 a82_20 (otabH tabsT) (fun v _ => eqx 2 v v82_20) = true := by kernel_rfl
theorem right82_20 [Unk] : Right Tryz.prog tabsT 82 (a82_20, v82_20) := right_in run82_20 (by kernel_rfl)
theorem run82_21 : kF code nats 5000 82 a82_21 (otabH tabsT) (fun v _ => eqx 2 v v82_21) = true := by kernel_rfl
theorem right82_21 [Unk] : Right Tryz.prog tabsT 82 (a82_21, v82_21) := right_in run82_21 (by kernel_rfl)
theorem run82_22 : kF code nats 5000 82 a82_22 (otabH tabsT) (fun v _ => eqx 2 v v82_22) = true := by kernel_rfl
theorem right82_22 [Unk] : Right Tryz.prog tabsT 82 (a82_22, v82_22) := right_in run82_22 (by kernel_rfl)
theorem run82_23 : kF code nats 5000 82 a82_23 (otabH tabsT) (fun v _ => eqx 2 v v82_23) = true := by kernel_rfl
theorem right82_23 [Unk] : Right Tryz.prog tabsT 82 (a82_23, v82_23) := right_in run82_23 (by kernel_rfl)
theorem run82_24 : kF code nats 5000 82 a82_24 (otabH tabsT) (fun v _ => eqx 2 v v82_24) = true := by kernel_rfl
theorem right82_24 [Unk] : Right Tryz.prog tabsT 82 (a82_24, v82_24) := right_in run82_24 (by kernel_rfl)
theorem run82_25 : kF code nats 5000 82 a82_25 (otabH tabsT) (fun v _ => eqx 2 v v82_25) = true := by kernel_rfl
theorem right82_25 [Unk] : Right Tryz.prog tabsT 82 (a82_25, v82_25) := right_in run82_25 (by kernel_rfl)
theorem run82_26 : kF code nats 5000 82 a82_26 (otabH tabsT) (fun v _ => eqx 2 v v82_26) = true := by kernel_rfl
theorem right82_26 [Unk] : Right Tryz.prog tabsT 82 (a82_26, v82_26) := right_in run82_26 (by kernel_rfl)
theorem run82_27 : kF code nats 5000 82 a82_27 (otabH tabsT) (fun v _ => eqx 2 v v82_27) = true := by kernel_rfl
theorem right82_27 [Unk] : Right Tryz.prog tabsT 82 (a82_27, v82_27) := right_in run82_27 (by kernel_rfl)
theorem run82_28 : kF code nats 5000 82 a82_28 (otabH tabsT) (fun v _ => eqx 2 v v82_28) = true := by kernel_rfl
theorem right82_28 [Unk] : Right Tryz.prog tabsT 82 (a82_28, v82_28) := right_in run82_28 (by kernel_rfl)
theorem run82_29 : kF code nats 5000 82 a82_29 (otabH tabsT) (fun v _ => eqx 2 v v82_29) = true := by kernel_rfl
theorem right82_29 [Unk] : Right Tryz.prog tabsT 82 (a82_29, v82_29) := right_in run82_29 (by kernel_rfl)
theorem run82_30 : kF code nats 5000 82 a82_30 (otabH tabsT) (fun v _ => eqx 2 v v82_30) = true := by kernel_rfl
theorem right82_30 [Unk] : Right Tryz.prog tabsT 82 (a82_30, v82_30) := right_in run82_30 (by kernel_rfl)
theorem run82_31 : kF code nats 5000 82 a82_31 (otabH tabsT) (fun v _ => eqx 2 v v82_31) = true := by kernel_rfl
theorem right82_31 [Unk] : Right Tryz.prog tabsT 82 (a82_31, v82_31) := right_in run82_31 (by kernel_rfl)
theorem run82_32 : kF code nats 5000 82 a82_32 (otabH tabsT) (fun v _ => eqx 2 v v82_32) = true := by kernel_rfl
theorem right82_32 [Unk] : Right Tryz.prog tabsT 82 (a82_32, v82_32) := right_in run82_32 (by kernel_rfl)
theorem run82_33 : kF code nats 5000 82 a82_33 (otabH tabsT) (fun v _ => eqx 2 v v82_33) = true := by kernel_rfl
theorem right82_33 [Unk] : Right Tryz.prog tabsT 82 (a82_33, v82_33) := right_in run82_33 (by kernel_rfl)
theorem run82_34 : kF code nats 5000 82 a82_34 (otabH tabsT) (fun v _ => eqx 2 v v82_34) = true := by kernel_rfl
theorem right82_34 [Unk] : Right Tryz.prog tabsT 82 (a82_34, v82_34) := right_in run82_34 (by kernel_rfl)
theorem run82_35 : kF code nats 5000 82 a82_35 (otabH tabsT) (fun v _ => eqx 2 v v82_35) = true := by kernel_rfl
theorem right82_35 [Unk] : Right Tryz.prog tabsT 82 (a82_35, v82_35) := right_in run82_35 (by kernel_rfl)
theorem run117_1 : kF code nats 5000 117 a117_1 (otabH tabsT) (fun v _ => eqx 2 v v117_1) = true := by kernel_rfl
theorem right117_1 [Unk] : Right Tryz.prog tabsT 117 (a117_1, v117_1) := right_in run117_1 (by kernel_rfl)
theorem run117_2 : kF code nats 5000 117 a117_2 (otabH tabsT) (fun v _ => eqx 2 v v117_2) = true := by kernel_rfl
theorem right117_2 [Unk] : Right Tryz.prog tabsT 117 (a117_2, v117_2) := right_in run117_2 (by kernel_rfl)
theorem run117_3 : kF code nats 5000 117 a117_3 (otabH tabsT) (fun v _ => eqx 2 v v117_3) = true := by kernel_rfl
theorem right117_3 [Unk] : Right Tryz.prog tabsT 117 (a117_3, v117_3) := right_in run117_3 (by kernel_rfl)
theorem run117_4 : kF code nats 5000 117 a117_4 (otabH tabsT) (fun v _ => eqx 2 v v117_4) = true := by kernel_rfl
theorem right117_4 [Unk] : Right Tryz.prog tabsT 117 (a117_4, v117_4) := right_in run117_4 (by kernel_rfl)
theorem run117_6 : kF code nats 5000 117 a117_6 (otabH tabsT) (fun v _ => eqx 2 v v117_6) = true := by kernel_rfl
theorem right117_6 [Unk] : Right Tryz.prog tabsT 117 (a117_6, v117_6) := right_in run117_6 (by kernel_rfl)
theorem run117_7 : kF code nats 5000 117 a117_7 (otabH tabsT) (fun v _ => eqx 2 v v117_7) = true := by kernel_rfl
theorem right117_7 [Unk] : Right Tryz.prog tabsT 117 (a117_7, v117_7) := right_in run117_7 (by kernel_rfl)
end Go.Proofs.YtainaihfbljjoaaGreatDoor
