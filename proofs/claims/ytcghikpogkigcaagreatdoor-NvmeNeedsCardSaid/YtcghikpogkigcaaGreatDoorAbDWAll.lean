/- Runs by ways, put together. -/
import Derived.Test.YtcghikpogkigcaaGreatDoorAbDW0
set_option linter.all false
set_option linter.unusedSectionVars false
set_option linter.unusedVariables false
set_option linter.unusedSimpArgs false
namespace Go.Proofs.YtcghikpogkigcaaGreatDoor
open Go Go.Ab Go.Proofs Go.RowKit
set_option maxRecDepth 1000000

theorem r0_7 : RT0 t0_7 p0_7 := ⟨r0_9, r0_10⟩
theorem r0_5 : RT0 t0_5 p0_5 := ⟨r0_7, r0_8⟩
theorem r0_6 : RT0 t0_6 p0_6 := ⟨r0_11, r0_12⟩
theorem r0_3 : RT0 t0_3 p0_3 := ⟨r0_5, r0_6⟩
theorem r0_1 : RT0 t0_1 p0_1 := ⟨r0_3, r0_4⟩
theorem r0_17 : RT0 t0_17 p0_17 := ⟨r0_19, r0_20⟩
theorem r0_15 : RT0 t0_15 p0_15 := ⟨r0_17, r0_18⟩
theorem r0_16 : RT0 t0_16 p0_16 := ⟨r0_21, r0_22⟩
theorem r0_13 : RT0 t0_13 p0_13 := ⟨r0_15, r0_16⟩
theorem r0_2 : RT0 t0_2 p0_2 := ⟨r0_13, r0_14⟩
theorem r0_0 : RT0 t0_0 p0_0 := ⟨r0_1, r0_2⟩
theorem r1_5 : RT1 t1_5 p1_5 := ⟨r1_7, r1_8⟩
theorem r1_3 : RT1 t1_3 p1_3 := ⟨r1_5, r1_6⟩
theorem r1_4 : RT1 t1_4 p1_4 := ⟨r1_9, r1_10⟩
theorem r1_1 : RT1 t1_1 p1_1 := ⟨r1_3, r1_4⟩
theorem r1_13 : RT1 t1_13 p1_13 := ⟨r1_15, r1_16⟩
theorem r1_11 : RT1 t1_11 p1_11 := ⟨r1_13, r1_14⟩
theorem r1_12 : RT1 t1_12 p1_12 := ⟨r1_17, r1_18⟩
theorem r1_2 : RT1 t1_2 p1_2 := ⟨r1_11, r1_12⟩
theorem r1_0 : RT1 t1_0 p1_0 := ⟨r1_1, r1_2⟩
end Go.Proofs.YtcghikpogkigcaaGreatDoor
