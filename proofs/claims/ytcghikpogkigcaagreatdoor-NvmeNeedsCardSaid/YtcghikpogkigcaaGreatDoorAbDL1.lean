/- Runs by ways. -/
import Derived.Test.YtcghikpogkigcaaGreatDoorAbDL
set_option linter.all false
set_option linter.unusedSectionVars false
set_option linter.unusedVariables false
set_option linter.unusedSimpArgs false
namespace Go.Proofs.YtcghikpogkigcaaGreatDoor.R
open Go Go.Ab Go.Proofs Go.RowKit
set_option maxRecDepth 1000000

theorem k2_110 : runE (fun K => @code K) (fun K => @nats K) 128 4 rest2 tabs p2_110 t2_110 = true := by kernel_rfl
theorem r2_110 : RT2 t2_110 p2_110 := way_T (by kernel_rfl) k2_110
theorem k2_112 : runE (fun K => @code K) (fun K => @nats K) 128 4 rest2 tabs p2_112 t2_112 = true := by kernel_rfl
theorem r2_112 : RT2 t2_112 p2_112 := way_T (by kernel_rfl) k2_112
theorem k2_114 : runE (fun K => @code K) (fun K => @nats K) 128 4 rest2 tabs p2_114 t2_114 = true := by kernel_rfl
theorem r2_114 : RT2 t2_114 p2_114 := way_T (by kernel_rfl) k2_114
theorem k2_116 : runE (fun K => @code K) (fun K => @nats K) 128 4 rest2 tabs p2_116 t2_116 = true := by kernel_rfl
theorem r2_116 : RT2 t2_116 p2_116 := way_T (by kernel_rfl) k2_116
theorem k2_125 : runE (fun K => @code K) (fun K => @nats K) 128 4 rest2 tabs p2_125 t2_125 = true := by kernel_rfl
theorem r2_125 : RT2 t2_125 p2_125 := way_T (by kernel_rfl) k2_125
theorem k2_126 : runE (fun K => @code K) (fun K => @nats K) 128 4 rest2 tabs p2_126 t2_126 = true := by kernel_rfl
theorem r2_126 : RT2 t2_126 p2_126 := way_T (by kernel_rfl) k2_126
theorem k2_136 : runE (fun K => @code K) (fun K => @nats K) 128 4 rest2 tabs p2_136 t2_136 = true := by kernel_rfl
theorem r2_136 : RT2 t2_136 p2_136 := way_T (by kernel_rfl) k2_136
theorem k2_137 : runE (fun K => @code K) (fun K => @nats K) 128 4 rest2 tabs p2_137 t2_137 = true := by kernel_rfl
theorem r2_137 : RT2 t2_137 p2_137 := way_T (by kernel_rfl) k2_137
theorem k2_138 : runE (fun K => @code K) (fun K => @nats K) 128 4 rest2 tabs p2_138 t2_138 = true := by kernel_rfl
theorem r2_138 : RT2 t2_138 p2_138 := way_T (by kernel_rfl) k2_138
theorem k2_206 : runE (fun K => @code K) (fun K => @nats K) 128 4 rest2 tabs p2_206 t2_206 = true := by kernel_rfl
theorem r2_206 : RT2 t2_206 p2_206 := way_T (by kernel_rfl) k2_206
theorem k2_219 : runE (fun K => @code K) (fun K => @nats K) 128 4 rest2 tabs p2_219 t2_219 = true := by kernel_rfl
theorem r2_219 : RT2 t2_219 p2_219 := way_T (by kernel_rfl) k2_219
theorem k2_229 : runE (fun K => @code K) (fun K => @nats K) 128 4 rest2 tabs p2_229 t2_229 = true := by kernel_rfl
theorem r2_229 : RT2 t2_229 p2_229 := way_T (by kernel_rfl) k2_229
theorem k2_230 : runE (fun K => @code K) (fun K => @nats K) 128 4 rest2 tabs p2_230 t2_230 = true := by kernel_rfl
theorem r2_230 : RT2 t2_230 p2_230 := way_T (by kernel_rfl) k2_230
theorem k2_240 : runE (fun K => @code K) (fun K => @nats K) 128 4 rest2 tabs p2_240 t2_240 = true := by kernel_rfl
theorem r2_240 : RT2 t2_240 p2_240 := way_T (by kernel_rfl) k2_240
theorem k2_241 : runE (fun K => @code K) (fun K => @nats K) 128 4 rest2 tabs p2_241 t2_241 = true := by kernel_rfl
theorem r2_241 : RT2 t2_241 p2_241 := way_T (by kernel_rfl) k2_241
theorem k2_242 : runE (fun K => @code K) (fun K => @nats K) 128 4 rest2 tabs p2_242 t2_242 = true := by kernel_rfl
theorem r2_242 : RT2 t2_242 p2_242 := way_T (by kernel_rfl) k2_242
theorem k2_358 : runE (fun K => @code K) (fun K => @nats K) 128 4 rest2 tabs p2_358 t2_358 = true := by kernel_rfl
theorem r2_358 : RT2 t2_358 p2_358 := way_T (by kernel_rfl) k2_358
theorem k2_360 : runE (fun K => @code K) (fun K => @nats K) 128 4 rest2 tabs p2_360 t2_360 = true := by kernel_rfl
theorem r2_360 : RT2 t2_360 p2_360 := way_T (by kernel_rfl) k2_360
theorem k2_361 : runE (fun K => @code K) (fun K => @nats K) 128 4 rest2 tabs p2_361 t2_361 = true := by kernel_rfl
theorem r2_361 : RT2 t2_361 p2_361 := way_T (by kernel_rfl) k2_361
theorem k2_362 : runE (fun K => @code K) (fun K => @nats K) 128 4 rest2 tabs p2_362 t2_362 = true := by kernel_rfl
theorem r2_362 : RT2 t2_362 p2_362 := way_T (by kernel_rfl) k2_362
theorem k2_364 : runE (fun K => @code K) (fun K => @nats K) 128 4 rest2 tabs p2_364 t2_364 = true := by kernel_rfl
theorem r2_364 : RT2 t2_364 p2_364 := way_T (by kernel_rfl) k2_364
theorem k2_366 : runE (fun K => @code K) (fun K => @nats K) 128 4 rest2 tabs p2_366 t2_366 = true := by kernel_rfl
theorem r2_366 : RT2 t2_366 p2_366 := way_T (by kernel_rfl) k2_366
theorem k2_368 : runE (fun K => @code K) (fun K => @nats K) 128 4 rest2 tabs p2_368 t2_368 = true := by kernel_rfl
theorem r2_368 : RT2 t2_368 p2_368 := way_T (by kernel_rfl) k2_368
theorem k2_370 : runE (fun K => @code K) (fun K => @nats K) 128 4 rest2 tabs p2_370 t2_370 = true := by kernel_rfl
theorem r2_370 : RT2 t2_370 p2_370 := way_T (by kernel_rfl) k2_370
theorem k2_377 : runE (fun K => @code K) (fun K => @nats K) 128 4 rest2 tabs p2_377 t2_377 = true := by kernel_rfl
theorem r2_377 : RT2 t2_377 p2_377 := way_T (by kernel_rfl) k2_377
theorem k2_387 : runE (fun K => @code K) (fun K => @nats K) 128 4 rest2 tabs p2_387 t2_387 = true := by kernel_rfl
theorem r2_387 : RT2 t2_387 p2_387 := way_T (by kernel_rfl) k2_387
theorem k2_388 : runE (fun K => @code K) (fun K => @nats K) 128 4 rest2 tabs p2_388 t2_388 = true := by kernel_rfl
theorem r2_388 : RT2 t2_388 p2_388 := way_T (by kernel_rfl) k2_388
theorem k2_398 : runE (fun K => @code K) (fun K => @nats K) 128 4 rest2 tabs p2_398 t2_398 = true := by kernel_rfl
theorem r2_398 : RT2 t2_398 p2_398 := way_T (by kernel_rfl) k2_398
theorem k2_399 : runE (fun K => @code K) (fun K => @nats K) 128 4 rest2 tabs p2_399 t2_399 = true := by kernel_rfl
theorem r2_399 : RT2 t2_399 p2_399 := way_T (by kernel_rfl) k2_399
theorem k2_400 : runE (fun K => @code K) (fun K => @nats K) 128 4 rest2 tabs p2_400 t2_400 = true := by kernel_rfl
theorem r2_400 : RT2 t2_400 p2_400 := way_T (by kernel_rfl) k2_400
theorem k2_462 : runE (fun K => @code K) (fun K => @nats K) 128 4 rest2 tabs p2_462 t2_462 = true := by kernel_rfl
theorem r2_462 : RT2 t2_462 p2_462 := way_T (by kernel_rfl) k2_462
theorem k2_464 : runE (fun K => @code K) (fun K => @nats K) 128 4 rest2 tabs p2_464 t2_464 = true := by kernel_rfl
theorem r2_464 : RT2 t2_464 p2_464 := way_T (by kernel_rfl) k2_464
theorem k2_465 : runE (fun K => @code K) (fun K => @nats K) 128 4 rest2 tabs p2_465 t2_465 = true := by kernel_rfl
theorem r2_465 : RT2 t2_465 p2_465 := way_T (by kernel_rfl) k2_465
theorem k2_466 : runE (fun K => @code K) (fun K => @nats K) 128 4 rest2 tabs p2_466 t2_466 = true := by kernel_rfl
theorem r2_466 : RT2 t2_466 p2_466 := way_T (by kernel_rfl) k2_466
theorem k2_468 : runE (fun K => @code K) (fun K => @nats K) 128 4 rest2 tabs p2_468 t2_468 = true := by kernel_rfl
theorem r2_468 : RT2 t2_468 p2_468 := way_T (by kernel_rfl) k2_468
theorem k2_470 : runE (fun K => @code K) (fun K => @nats K) 128 4 rest2 tabs p2_470 t2_470 = true := by kernel_rfl
theorem r2_470 : RT2 t2_470 p2_470 := way_T (by kernel_rfl) k2_470
theorem k2_472 : runE (fun K => @code K) (fun K => @nats K) 128 4 rest2 tabs p2_472 t2_472 = true := by kernel_rfl
theorem r2_472 : RT2 t2_472 p2_472 := way_T (by kernel_rfl) k2_472
theorem k2_474 : runE (fun K => @code K) (fun K => @nats K) 128 4 rest2 tabs p2_474 t2_474 = true := by kernel_rfl
theorem r2_474 : RT2 t2_474 p2_474 := way_T (by kernel_rfl) k2_474
theorem k2_481 : runE (fun K => @code K) (fun K => @nats K) 128 4 rest2 tabs p2_481 t2_481 = true := by kernel_rfl
theorem r2_481 : RT2 t2_481 p2_481 := way_T (by kernel_rfl) k2_481
theorem k2_491 : runE (fun K => @code K) (fun K => @nats K) 128 4 rest2 tabs p2_491 t2_491 = true := by kernel_rfl
theorem r2_491 : RT2 t2_491 p2_491 := way_T (by kernel_rfl) k2_491
theorem k2_492 : runE (fun K => @code K) (fun K => @nats K) 128 4 rest2 tabs p2_492 t2_492 = true := by kernel_rfl
theorem r2_492 : RT2 t2_492 p2_492 := way_T (by kernel_rfl) k2_492
theorem k2_502 : runE (fun K => @code K) (fun K => @nats K) 128 4 rest2 tabs p2_502 t2_502 = true := by kernel_rfl
theorem r2_502 : RT2 t2_502 p2_502 := way_T (by kernel_rfl) k2_502
theorem k2_503 : runE (fun K => @code K) (fun K => @nats K) 128 4 rest2 tabs p2_503 t2_503 = true := by kernel_rfl
theorem r2_503 : RT2 t2_503 p2_503 := way_T (by kernel_rfl) k2_503
theorem k2_504 : runE (fun K => @code K) (fun K => @nats K) 128 4 rest2 tabs p2_504 t2_504 = true := by kernel_rfl
theorem r2_504 : RT2 t2_504 p2_504 := way_T (by kernel_rfl) k2_504
end Go.Proofs.YtcghikpogkigcaaGreatDoor.R
