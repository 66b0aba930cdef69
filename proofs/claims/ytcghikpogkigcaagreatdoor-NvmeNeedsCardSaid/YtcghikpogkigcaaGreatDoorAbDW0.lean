/- Runs by ways. -/
import Derived.Test.YtcghikpogkigcaaGreatDoorAbDW
set_option linter.all false
set_option linter.unusedSectionVars false
set_option linter.unusedVariables false
set_option linter.unusedSimpArgs false
namespace Go.Proofs.YtcghikpogkigcaaGreatDoor
open Go Go.Ab Go.Proofs Go.RowKit
set_option maxRecDepth 1000000

theorem k0_4 : runE (fun _ => code) (fun _ => nats) 64 63 rest0 wtabsT5 p0_4 t0_4 = true := by kernel_rfl
theorem r0_4 : RT0 t0_4 p0_4 := way_T (by kernel_rfl) k0_4
theorem k0_8 : runE (fun _ => code) (fun _ => nats) 64 63 rest0 wtabsT5 p0_8 t0_8 = true := by kernel_rfl
theorem r0_8 : RT0 t0_8 p0_8 := way_T (by kernel_rfl) k0_8
theorem k0_9 : runE (fun _ => code) (fun _ => nats) 64 63 rest0 wtabsT5 p0_9 t0_9 = true := by kernel_rfl
theorem r0_9 : RT0 t0_9 p0_9 := way_T (by kernel_rfl) k0_9
theorem k0_10 : runE (fun _ => code) (fun _ => nats) 64 63 rest0 wtabsT5 p0_10 t0_10 = true := by kernel_rfl
theorem r0_10 : RT0 t0_10 p0_10 := way_T (by kernel_rfl) k0_10
theorem k0_11 : runE (fun _ => code) (fun _ => nats) 64 63 rest0 wtabsT5 p0_11 t0_11 = true := by kernel_rfl
theorem r0_11 : RT0 t0_11 p0_11 := way_T (by kernel_rfl) k0_11
theorem k0_12 : runE (fun _ => code) (fun _ => nats) 64 63 rest0 wtabsT5 p0_12 t0_12 = true := by kernel_rfl
theorem r0_12 : RT0 t0_12 p0_12 := way_T (by kernel_rfl) k0_12
theorem k0_14 : runE (fun _ => code) (fun _ => nats) 64 63 rest0 wtabsT5 p0_14 t0_14 = true := by kernel_rfl
theorem r0_14 : RT0 t0_14 p0_14 := way_T (by kernel_rfl) k0_14
theorem k0_18 : runE (fun _ => code) (fun _ => nats) 64 63 rest0 wtabsT5 p0_18 t0_18 = true := by kernel_rfl
theorem r0_18 : RT0 t0_18 p0_18 := way_T (by kernel_rfl) k0_18
theorem k0_19 : runE (fun _ => code) (fun _ => nats) 64 63 rest0 wtabsT5 p0_19 t0_19 = true := by kernel_rfl
theorem r0_19 : RT0 t0_19 p0_19 := way_T (by kernel_rfl) k0_19
theorem k0_20 : runE (fun _ => code) (fun _ => nats) 64 63 rest0 wtabsT5 p0_20 t0_20 = true := by kernel_rfl
theorem r0_20 : RT0 t0_20 p0_20 := way_T (by kernel_rfl) k0_20
theorem k0_21 : runE (fun _ => code) (fun _ => nats) 64 63 rest0 wtabsT5 p0_21 t0_21 = true := by kernel_rfl
theorem r0_21 : RT0 t0_21 p0_21 := way_T (by kernel_rfl) k0_21
theorem k0_22 : runE (fun _ => code) (fun _ => nats) 64 63 rest0 wtabsT5 p0_22 t0_22 = true := by kernel_rfl
theorem r0_22 : RT0 t0_22 p0_22 := way_T (by kernel_rfl) k0_22
theorem k1_6 : runE (fun _ => code) (fun _ => nats) 64 40 rest1 wtabsT p1_6 t1_6 = true := by kernel_rfl
theorem r1_6 : RT1 t1_6 p1_6 := way_T (by kernel_rfl) k1_6
theorem k1_7 : runE (fun _ => code) (fun _ => nats) 64 40 rest1 wtabsT p1_7 t1_7 = true := by kernel_rfl
theorem r1_7 : RT1 t1_7 p1_7 := way_T (by kernel_rfl) k1_7
theorem k1_8 : runE (fun _ => code) (fun _ => nats) 64 40 rest1 wtabsT p1_8 t1_8 = true := by kernel_rfl
theorem r1_8 : RT1 t1_8 p1_8 := way_T (by kernel_rfl) k1_8
theorem k1_9 : runE (fun _ => code) (fun _ => nats) 64 40 rest1 wtabsT p1_9 t1_9 = true := by kernel_rfl
theorem r1_9 : RT1 t1_9 p1_9 := way_T (by kernel_rfl) k1_9
theorem k1_10 : runE (fun _ => code) (fun _ => nats) 64 40 rest1 wtabsT p1_10 t1_10 = true := by kernel_rfl
theorem r1_10 : RT1 t1_10 p1_10 := way_T (by kernel_rfl) k1_10
theorem k1_14 : runE (fun _ => code) (fun _ => nats) 64 40 rest1 wtabsT p1_14 t1_14 = true := by kernel_rfl
theorem r1_14 : RT1 t1_14 p1_14 := way_T (by kernel_rfl) k1_14
theorem k1_15 : runE (fun _ => code) (fun _ => nats) 64 40 rest1 wtabsT p1_15 t1_15 = true := by kernel_rfl
theorem r1_15 : RT1 t1_15 p1_15 := way_T (by kernel_rfl) k1_15
theorem k1_16 : runE (fun _ => code) (fun _ => nats) 64 40 rest1 wtabsT p1_16 t1_16 = true := by kernel_rfl
theorem r1_16 : RT1 t1_16 p1_16 := way_T (by kernel_rfl) k1_16
theorem k1_17 : runE (fun _ => code) (fun _ => nats) 64 40 rest1 wtabsT p1_17 t1_17 = true := by kernel_rfl
theorem r1_17 : RT1 t1_17 p1_17 := way_T (by kernel_rfl) k1_17
theorem k1_18 : runE (fun _ => code) (fun _ => nats) 64 40 rest1 wtabsT p1_18 t1_18 = true := by kernel_rfl
theorem r1_18 : RT1 t1_18 p1_18 := way_T (by kernel_rfl) k1_18
end Go.Proofs.YtcghikpogkigcaaGreatDoor
