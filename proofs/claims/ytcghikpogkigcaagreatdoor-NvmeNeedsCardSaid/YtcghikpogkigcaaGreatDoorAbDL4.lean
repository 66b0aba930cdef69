/- Runs by ways. -/
import Derived.Test.YtcghikpogkigcaaGreatDoorAbDL
set_option linter.all false
set_option linter.unusedSectionVars false
set_option linter.unusedVariables false
set_option linter.unusedSimpArgs false
namespace Go.Proofs.YtcghikpogkigcaaGreatDoor.R
open Go Go.Ab Go.Proofs Go.RowKit
set_option maxRecDepth 1000000

theorem k0_146 : runE (fun K => @code K) (fun K => @nats K) 64 4 rest0 tabs p0_146 t0_146 = true := by kernel_rfl
theorem r0_146 : RT0 t0_146 p0_146 := way_T (by kernel_rfl) k0_146
theorem k2_288 : runE (fun K => @code K) (fun K => @nats K) 128 4 rest2 tabs p2_288 t2_288 = true := by kernel_rfl
theorem r2_288 : RT2 t2_288 p2_288 := way_T (by kernel_rfl) k2_288
theorem k2_301 : runE (fun K => @code K) (fun K => @nats K) 128 4 rest2 tabs p2_301 t2_301 = true := by kernel_rfl
theorem r2_301 : RT2 t2_301 p2_301 := way_T (by kernel_rfl) k2_301
theorem k2_302 : runE (fun K => @code K) (fun K => @nats K) 128 4 rest2 tabs p2_302 t2_302 = true := by kernel_rfl
theorem r2_302 : RT2 t2_302 p2_302 := way_T (by kernel_rfl) k2_302
theorem k2_305 : runE (fun K => @code K) (fun K => @nats K) 128 4 rest2 tabs p2_305 t2_305 = true := by kernel_rfl
theorem r2_305 : RT2 t2_305 p2_305 := way_T (by kernel_rfl) k2_305
theorem k2_306 : runE (fun K => @code K) (fun K => @nats K) 128 4 rest2 tabs p2_306 t2_306 = true := by kernel_rfl
theorem r2_306 : RT2 t2_306 p2_306 := way_T (by kernel_rfl) k2_306
theorem k2_324 : runE (fun K => @code K) (fun K => @nats K) 128 4 rest2 tabs p2_324 t2_324 = true := by kernel_rfl
theorem r2_324 : RT2 t2_324 p2_324 := way_T (by kernel_rfl) k2_324
theorem k2_326 : runE (fun K => @code K) (fun K => @nats K) 128 4 rest2 tabs p2_326 t2_326 = true := by kernel_rfl
theorem r2_326 : RT2 t2_326 p2_326 := way_T (by kernel_rfl) k2_326
theorem k2_328 : runE (fun K => @code K) (fun K => @nats K) 128 4 rest2 tabs p2_328 t2_328 = true := by kernel_rfl
theorem r2_328 : RT2 t2_328 p2_328 := way_T (by kernel_rfl) k2_328
theorem k2_330 : runE (fun K => @code K) (fun K => @nats K) 128 4 rest2 tabs p2_330 t2_330 = true := by kernel_rfl
theorem r2_330 : RT2 t2_330 p2_330 := way_T (by kernel_rfl) k2_330
theorem k2_332 : runE (fun K => @code K) (fun K => @nats K) 128 4 rest2 tabs p2_332 t2_332 = true := by kernel_rfl
theorem r2_332 : RT2 t2_332 p2_332 := way_T (by kernel_rfl) k2_332
theorem k2_334 : runE (fun K => @code K) (fun K => @nats K) 128 4 rest2 tabs p2_334 t2_334 = true := by kernel_rfl
theorem r2_334 : RT2 t2_334 p2_334 := way_T (by kernel_rfl) k2_334
theorem k2_336 : runE (fun K => @code K) (fun K => @nats K) 128 4 rest2 tabs p2_336 t2_336 = true := by kernel_rfl
theorem r2_336 : RT2 t2_336 p2_336 := way_T (by kernel_rfl) k2_336
theorem k2_410 : runE (fun K => @code K) (fun K => @nats K) 128 4 rest2 tabs p2_410 t2_410 = true := by kernel_rfl
theorem r2_410 : RT2 t2_410 p2_410 := way_T (by kernel_rfl) k2_410
theorem k2_412 : runE (fun K => @code K) (fun K => @nats K) 128 4 rest2 tabs p2_412 t2_412 = true := by kernel_rfl
theorem r2_412 : RT2 t2_412 p2_412 := way_T (by kernel_rfl) k2_412
theorem k2_413 : runE (fun K => @code K) (fun K => @nats K) 128 4 rest2 tabs p2_413 t2_413 = true := by kernel_rfl
theorem r2_413 : RT2 t2_413 p2_413 := way_T (by kernel_rfl) k2_413
theorem k2_414 : runE (fun K => @code K) (fun K => @nats K) 128 4 rest2 tabs p2_414 t2_414 = true := by kernel_rfl
theorem r2_414 : RT2 t2_414 p2_414 := way_T (by kernel_rfl) k2_414
theorem k2_428 : runE (fun K => @code K) (fun K => @nats K) 128 4 rest2 tabs p2_428 t2_428 = true := by kernel_rfl
theorem r2_428 : RT2 t2_428 p2_428 := way_T (by kernel_rfl) k2_428
theorem k2_430 : runE (fun K => @code K) (fun K => @nats K) 128 4 rest2 tabs p2_430 t2_430 = true := by kernel_rfl
theorem r2_430 : RT2 t2_430 p2_430 := way_T (by kernel_rfl) k2_430
theorem k2_432 : runE (fun K => @code K) (fun K => @nats K) 128 4 rest2 tabs p2_432 t2_432 = true := by kernel_rfl
theorem r2_432 : RT2 t2_432 p2_432 := way_T (by kernel_rfl) k2_432
theorem k2_434 : runE (fun K => @code K) (fun K => @nats K) 128 4 rest2 tabs p2_434 t2_434 = true := by kernel_rfl
theorem r2_434 : RT2 t2_434 p2_434 := way_T (by kernel_rfl) k2_434
theorem k2_436 : runE (fun K => @code K) (fun K => @nats K) 128 4 rest2 tabs p2_436 t2_436 = true := by kernel_rfl
theorem r2_436 : RT2 t2_436 p2_436 := way_T (by kernel_rfl) k2_436
theorem k2_438 : runE (fun K => @code K) (fun K => @nats K) 128 4 rest2 tabs p2_438 t2_438 = true := by kernel_rfl
theorem r2_438 : RT2 t2_438 p2_438 := way_T (by kernel_rfl) k2_438
theorem k2_440 : runE (fun K => @code K) (fun K => @nats K) 128 4 rest2 tabs p2_440 t2_440 = true := by kernel_rfl
theorem r2_440 : RT2 t2_440 p2_440 := way_T (by kernel_rfl) k2_440
theorem k2_514 : runE (fun K => @code K) (fun K => @nats K) 128 4 rest2 tabs p2_514 t2_514 = true := by kernel_rfl
theorem r2_514 : RT2 t2_514 p2_514 := way_T (by kernel_rfl) k2_514
theorem k2_516 : runE (fun K => @code K) (fun K => @nats K) 128 4 rest2 tabs p2_516 t2_516 = true := by kernel_rfl
theorem r2_516 : RT2 t2_516 p2_516 := way_T (by kernel_rfl) k2_516
theorem k2_517 : runE (fun K => @code K) (fun K => @nats K) 128 4 rest2 tabs p2_517 t2_517 = true := by kernel_rfl
theorem r2_517 : RT2 t2_517 p2_517 := way_T (by kernel_rfl) k2_517
theorem k2_518 : runE (fun K => @code K) (fun K => @nats K) 128 4 rest2 tabs p2_518 t2_518 = true := by kernel_rfl
theorem r2_518 : RT2 t2_518 p2_518 := way_T (by kernel_rfl) k2_518
theorem k3_21 : runE (fun K => @code K) (fun K => @nats K) 128 4 rest3 tabs p3_21 t3_21 = true := by kernel_rfl
theorem r3_21 : RT3 t3_21 p3_21 := way_T (by kernel_rfl) k3_21
theorem k3_22 : runE (fun K => @code K) (fun K => @nats K) 128 4 rest3 tabs p3_22 t3_22 = true := by kernel_rfl
theorem r3_22 : RT3 t3_22 p3_22 := way_T (by kernel_rfl) k3_22
theorem k3_25 : runE (fun K => @code K) (fun K => @nats K) 128 4 rest3 tabs p3_25 t3_25 = true := by kernel_rfl
theorem r3_25 : RT3 t3_25 p3_25 := way_T (by kernel_rfl) k3_25
theorem k3_26 : runE (fun K => @code K) (fun K => @nats K) 128 4 rest3 tabs p3_26 t3_26 = true := by kernel_rfl
theorem r3_26 : RT3 t3_26 p3_26 := way_T (by kernel_rfl) k3_26
theorem k3_39 : runE (fun K => @code K) (fun K => @nats K) 128 4 rest3 tabs p3_39 t3_39 = true := by kernel_rfl
theorem r3_39 : RT3 t3_39 p3_39 := way_T (by kernel_rfl) k3_39
theorem k3_40 : runE (fun K => @code K) (fun K => @nats K) 128 4 rest3 tabs p3_40 t3_40 = true := by kernel_rfl
theorem r3_40 : RT3 t3_40 p3_40 := way_T (by kernel_rfl) k3_40
theorem k3_43 : runE (fun K => @code K) (fun K => @nats K) 128 4 rest3 tabs p3_43 t3_43 = true := by kernel_rfl
theorem r3_43 : RT3 t3_43 p3_43 := way_T (by kernel_rfl) k3_43
theorem k3_44 : runE (fun K => @code K) (fun K => @nats K) 128 4 rest3 tabs p3_44 t3_44 = true := by kernel_rfl
theorem r3_44 : RT3 t3_44 p3_44 := way_T (by kernel_rfl) k3_44
theorem k3_62 : runE (fun K => @code K) (fun K => @nats K) 128 4 rest3 tabs p3_62 t3_62 = true := by kernel_rfl
theorem r3_62 : RT3 t3_62 p3_62 := way_T (by kernel_rfl) k3_62
theorem k3_64 : runE (fun K => @code K) (fun K => @nats K) 128 4 rest3 tabs p3_64 t3_64 = true := by kernel_rfl
theorem r3_64 : RT3 t3_64 p3_64 := way_T (by kernel_rfl) k3_64
theorem k3_66 : runE (fun K => @code K) (fun K => @nats K) 128 4 rest3 tabs p3_66 t3_66 = true := by kernel_rfl
theorem r3_66 : RT3 t3_66 p3_66 := way_T (by kernel_rfl) k3_66
theorem k3_68 : runE (fun K => @code K) (fun K => @nats K) 128 4 rest3 tabs p3_68 t3_68 = true := by kernel_rfl
theorem r3_68 : RT3 t3_68 p3_68 := way_T (by kernel_rfl) k3_68
theorem k3_70 : runE (fun K => @code K) (fun K => @nats K) 128 4 rest3 tabs p3_70 t3_70 = true := by kernel_rfl
theorem r3_70 : RT3 t3_70 p3_70 := way_T (by kernel_rfl) k3_70
theorem k3_72 : runE (fun K => @code K) (fun K => @nats K) 128 4 rest3 tabs p3_72 t3_72 = true := by kernel_rfl
theorem r3_72 : RT3 t3_72 p3_72 := way_T (by kernel_rfl) k3_72
theorem k3_74 : runE (fun K => @code K) (fun K => @nats K) 128 4 rest3 tabs p3_74 t3_74 = true := by kernel_rfl
theorem r3_74 : RT3 t3_74 p3_74 := way_T (by kernel_rfl) k3_74
theorem k3_78 : runE (fun K => @code K) (fun K => @nats K) 128 4 rest3 tabs p3_78 t3_78 = true := by kernel_rfl
theorem r3_78 : RT3 t3_78 p3_78 := way_T (by kernel_rfl) k3_78
theorem k3_80 : runE (fun K => @code K) (fun K => @nats K) 128 4 rest3 tabs p3_80 t3_80 = true := by kernel_rfl
theorem r3_80 : RT3 t3_80 p3_80 := way_T (by kernel_rfl) k3_80
theorem k3_81 : runE (fun K => @code K) (fun K => @nats K) 128 4 rest3 tabs p3_81 t3_81 = true := by kernel_rfl
theorem r3_81 : RT3 t3_81 p3_81 := way_T (by kernel_rfl) k3_81
theorem k3_82 : runE (fun K => @code K) (fun K => @nats K) 128 4 rest3 tabs p3_82 t3_82 = true := by kernel_rfl
theorem r3_82 : RT3 t3_82 p3_82 := way_T (by kernel_rfl) k3_82
theorem k3_100 : runE (fun K => @code K) (fun K => @nats K) 128 4 rest3 tabs p3_100 t3_100 = true := by kernel_rfl
theorem r3_100 : RT3 t3_100 p3_100 := way_T (by kernel_rfl) k3_100
theorem k3_102 : runE (fun K => @code K) (fun K => @nats K) 128 4 rest3 tabs p3_102 t3_102 = true := by kernel_rfl
theorem r3_102 : RT3 t3_102 p3_102 := way_T (by kernel_rfl) k3_102
theorem k3_104 : runE (fun K => @code K) (fun K => @nats K) 128 4 rest3 tabs p3_104 t3_104 = true := by kernel_rfl
theorem r3_104 : RT3 t3_104 p3_104 := way_T (by kernel_rfl) k3_104
theorem k3_106 : runE (fun K => @code K) (fun K => @nats K) 128 4 rest3 tabs p3_106 t3_106 = true := by kernel_rfl
theorem r3_106 : RT3 t3_106 p3_106 := way_T (by kernel_rfl) k3_106
theorem k3_108 : runE (fun K => @code K) (fun K => @nats K) 128 4 rest3 tabs p3_108 t3_108 = true := by kernel_rfl
theorem r3_108 : RT3 t3_108 p3_108 := way_T (by kernel_rfl) k3_108
end Go.Proofs.YtcghikpogkigcaaGreatDoor.R
