/- Runs by ways. -/
import Derived.Test.YtcghikpogkigcaaGreatDoorAbDL
set_option linter.all false
set_option linter.unusedSectionVars false
set_option linter.unusedVariables false
set_option linter.unusedSimpArgs false
namespace Go.Proofs.YtcghikpogkigcaaGreatDoor.R
open Go Go.Ab Go.Proofs Go.RowKit
set_option maxRecDepth 1000000

theorem k0_8 : runE (fun K => @code K) (fun K => @nats K) 64 4 rest0 tabs p0_8 t0_8 = true := by kernel_rfl
theorem r0_8 : RT0 t0_8 p0_8 := way_T (by kernel_rfl) k0_8
theorem k0_10 : runE (fun K => @code K) (fun K => @nats K) 64 4 rest0 tabs p0_10 t0_10 = true := by kernel_rfl
theorem r0_10 : RT0 t0_10 p0_10 := way_T (by kernel_rfl) k0_10
theorem k0_11 : runE (fun K => @code K) (fun K => @nats K) 64 4 rest0 tabs p0_11 t0_11 = true := by kernel_rfl
theorem r0_11 : RT0 t0_11 p0_11 := way_T (by kernel_rfl) k0_11
theorem k0_13 : runE (fun K => @code K) (fun K => @nats K) 64 4 rest0 tabs p0_13 t0_13 = true := by kernel_rfl
theorem r0_13 : RT0 t0_13 p0_13 := way_T (by kernel_rfl) k0_13
theorem k0_15 : runE (fun K => @code K) (fun K => @nats K) 64 4 rest0 tabs p0_15 t0_15 = true := by kernel_rfl
theorem r0_15 : RT0 t0_15 p0_15 := way_T (by kernel_rfl) k0_15
theorem k0_17 : runE (fun K => @code K) (fun K => @nats K) 64 4 rest0 tabs p0_17 t0_17 = true := by kernel_rfl
theorem r0_17 : RT0 t0_17 p0_17 := way_T (by kernel_rfl) k0_17
theorem k0_19 : runE (fun K => @code K) (fun K => @nats K) 64 4 rest0 tabs p0_19 t0_19 = true := by kernel_rfl
theorem r0_19 : RT0 t0_19 p0_19 := way_T (by kernel_rfl) k0_19
theorem k0_21 : runE (fun K => @code K) (fun K => @nats K) 64 4 rest0 tabs p0_21 t0_21 = true := by kernel_rfl
theorem r0_21 : RT0 t0_21 p0_21 := way_T (by kernel_rfl) k0_21
theorem k0_23 : runE (fun K => @code K) (fun K => @nats K) 64 4 rest0 tabs p0_23 t0_23 = true := by kernel_rfl
theorem r0_23 : RT0 t0_23 p0_23 := way_T (by kernel_rfl) k0_23
theorem k0_25 : runE (fun K => @code K) (fun K => @nats K) 64 4 rest0 tabs p0_25 t0_25 = true := by kernel_rfl
theorem r0_25 : RT0 t0_25 p0_25 := way_T (by kernel_rfl) k0_25
theorem k0_27 : runE (fun K => @code K) (fun K => @nats K) 64 4 rest0 tabs p0_27 t0_27 = true := by kernel_rfl
theorem r0_27 : RT0 t0_27 p0_27 := way_T (by kernel_rfl) k0_27
theorem k0_29 : runE (fun K => @code K) (fun K => @nats K) 64 4 rest0 tabs p0_29 t0_29 = true := by kernel_rfl
theorem r0_29 : RT0 t0_29 p0_29 := way_T (by kernel_rfl) k0_29
theorem k0_30 : runE (fun K => @code K) (fun K => @nats K) 64 4 rest0 tabs p0_30 t0_30 = true := by kernel_rfl
theorem r0_30 : RT0 t0_30 p0_30 := way_T (by kernel_rfl) k0_30
theorem k0_32 : runE (fun K => @code K) (fun K => @nats K) 64 4 rest0 tabs p0_32 t0_32 = true := by kernel_rfl
theorem r0_32 : RT0 t0_32 p0_32 := way_T (by kernel_rfl) k0_32
theorem k0_227 : runE (fun K => @code K) (fun K => @nats K) 64 4 rest0 tabs p0_227 t0_227 = true := by kernel_rfl
theorem r0_227 : RT0 t0_227 p0_227 := way_T (by kernel_rfl) k0_227
theorem k0_229 : runE (fun K => @code K) (fun K => @nats K) 64 4 rest0 tabs p0_229 t0_229 = true := by kernel_rfl
theorem r0_229 : RT0 t0_229 p0_229 := way_T (by kernel_rfl) k0_229
theorem k0_231 : runE (fun K => @code K) (fun K => @nats K) 64 4 rest0 tabs p0_231 t0_231 = true := by kernel_rfl
theorem r0_231 : RT0 t0_231 p0_231 := way_T (by kernel_rfl) k0_231
theorem k0_233 : runE (fun K => @code K) (fun K => @nats K) 64 4 rest0 tabs p0_233 t0_233 = true := by kernel_rfl
theorem r0_233 : RT0 t0_233 p0_233 := way_T (by kernel_rfl) k0_233
theorem k0_235 : runE (fun K => @code K) (fun K => @nats K) 64 4 rest0 tabs p0_235 t0_235 = true := by kernel_rfl
theorem r0_235 : RT0 t0_235 p0_235 := way_T (by kernel_rfl) k0_235
theorem k0_237 : runE (fun K => @code K) (fun K => @nats K) 64 4 rest0 tabs p0_237 t0_237 = true := by kernel_rfl
theorem r0_237 : RT0 t0_237 p0_237 := way_T (by kernel_rfl) k0_237
theorem k0_239 : runE (fun K => @code K) (fun K => @nats K) 64 4 rest0 tabs p0_239 t0_239 = true := by kernel_rfl
theorem r0_239 : RT0 t0_239 p0_239 := way_T (by kernel_rfl) k0_239
theorem k0_241 : runE (fun K => @code K) (fun K => @nats K) 64 4 rest0 tabs p0_241 t0_241 = true := by kernel_rfl
theorem r0_241 : RT0 t0_241 p0_241 := way_T (by kernel_rfl) k0_241
theorem k0_243 : runE (fun K => @code K) (fun K => @nats K) 64 4 rest0 tabs p0_243 t0_243 = true := by kernel_rfl
theorem r0_243 : RT0 t0_243 p0_243 := way_T (by kernel_rfl) k0_243
theorem k0_245 : runE (fun K => @code K) (fun K => @nats K) 64 4 rest0 tabs p0_245 t0_245 = true := by kernel_rfl
theorem r0_245 : RT0 t0_245 p0_245 := way_T (by kernel_rfl) k0_245
theorem k0_246 : runE (fun K => @code K) (fun K => @nats K) 64 4 rest0 tabs p0_246 t0_246 = true := by kernel_rfl
theorem r0_246 : RT0 t0_246 p0_246 := way_T (by kernel_rfl) k0_246
theorem k0_248 : runE (fun K => @code K) (fun K => @nats K) 64 4 rest0 tabs p0_248 t0_248 = true := by kernel_rfl
theorem r0_248 : RT0 t0_248 p0_248 := way_T (by kernel_rfl) k0_248
theorem k0_249 : runE (fun K => @code K) (fun K => @nats K) 64 4 rest0 tabs p0_249 t0_249 = true := by kernel_rfl
theorem r0_249 : RT0 t0_249 p0_249 := way_T (by kernel_rfl) k0_249
theorem k0_250 : runE (fun K => @code K) (fun K => @nats K) 64 4 rest0 tabs p0_250 t0_250 = true := by kernel_rfl
theorem r0_250 : RT0 t0_250 p0_250 := way_T (by kernel_rfl) k0_250
theorem k0_256 : runE (fun K => @code K) (fun K => @nats K) 64 4 rest0 tabs p0_256 t0_256 = true := by kernel_rfl
theorem r0_256 : RT0 t0_256 p0_256 := way_T (by kernel_rfl) k0_256
theorem k0_258 : runE (fun K => @code K) (fun K => @nats K) 64 4 rest0 tabs p0_258 t0_258 = true := by kernel_rfl
theorem r0_258 : RT0 t0_258 p0_258 := way_T (by kernel_rfl) k0_258
theorem k0_259 : runE (fun K => @code K) (fun K => @nats K) 64 4 rest0 tabs p0_259 t0_259 = true := by kernel_rfl
theorem r0_259 : RT0 t0_259 p0_259 := way_T (by kernel_rfl) k0_259
theorem k0_261 : runE (fun K => @code K) (fun K => @nats K) 64 4 rest0 tabs p0_261 t0_261 = true := by kernel_rfl
theorem r0_261 : RT0 t0_261 p0_261 := way_T (by kernel_rfl) k0_261
theorem k0_263 : runE (fun K => @code K) (fun K => @nats K) 64 4 rest0 tabs p0_263 t0_263 = true := by kernel_rfl
theorem r0_263 : RT0 t0_263 p0_263 := way_T (by kernel_rfl) k0_263
theorem k0_265 : runE (fun K => @code K) (fun K => @nats K) 64 4 rest0 tabs p0_265 t0_265 = true := by kernel_rfl
theorem r0_265 : RT0 t0_265 p0_265 := way_T (by kernel_rfl) k0_265
theorem k0_267 : runE (fun K => @code K) (fun K => @nats K) 64 4 rest0 tabs p0_267 t0_267 = true := by kernel_rfl
theorem r0_267 : RT0 t0_267 p0_267 := way_T (by kernel_rfl) k0_267
theorem k0_269 : runE (fun K => @code K) (fun K => @nats K) 64 4 rest0 tabs p0_269 t0_269 = true := by kernel_rfl
theorem r0_269 : RT0 t0_269 p0_269 := way_T (by kernel_rfl) k0_269
theorem k0_271 : runE (fun K => @code K) (fun K => @nats K) 64 4 rest0 tabs p0_271 t0_271 = true := by kernel_rfl
theorem r0_271 : RT0 t0_271 p0_271 := way_T (by kernel_rfl) k0_271
theorem k0_273 : runE (fun K => @code K) (fun K => @nats K) 64 4 rest0 tabs p0_273 t0_273 = true := by kernel_rfl
theorem r0_273 : RT0 t0_273 p0_273 := way_T (by kernel_rfl) k0_273
theorem k0_275 : runE (fun K => @code K) (fun K => @nats K) 64 4 rest0 tabs p0_275 t0_275 = true := by kernel_rfl
theorem r0_275 : RT0 t0_275 p0_275 := way_T (by kernel_rfl) k0_275
theorem k0_277 : runE (fun K => @code K) (fun K => @nats K) 64 4 rest0 tabs p0_277 t0_277 = true := by kernel_rfl
theorem r0_277 : RT0 t0_277 p0_277 := way_T (by kernel_rfl) k0_277
theorem k0_278 : runE (fun K => @code K) (fun K => @nats K) 64 4 rest0 tabs p0_278 t0_278 = true := by kernel_rfl
theorem r0_278 : RT0 t0_278 p0_278 := way_T (by kernel_rfl) k0_278
theorem k0_280 : runE (fun K => @code K) (fun K => @nats K) 64 4 rest0 tabs p0_280 t0_280 = true := by kernel_rfl
theorem r0_280 : RT0 t0_280 p0_280 := way_T (by kernel_rfl) k0_280
theorem k0_409 : runE (fun K => @code K) (fun K => @nats K) 64 4 rest0 tabs p0_409 t0_409 = true := by kernel_rfl
theorem r0_409 : RT0 t0_409 p0_409 := way_T (by kernel_rfl) k0_409
theorem k0_475 : runE (fun K => @code K) (fun K => @nats K) 64 4 rest0 tabs p0_475 t0_475 = true := by kernel_rfl
theorem r0_475 : RT0 t0_475 p0_475 := way_T (by kernel_rfl) k0_475
theorem k0_477 : runE (fun K => @code K) (fun K => @nats K) 64 4 rest0 tabs p0_477 t0_477 = true := by kernel_rfl
theorem r0_477 : RT0 t0_477 p0_477 := way_T (by kernel_rfl) k0_477
theorem k0_479 : runE (fun K => @code K) (fun K => @nats K) 64 4 rest0 tabs p0_479 t0_479 = true := by kernel_rfl
theorem r0_479 : RT0 t0_479 p0_479 := way_T (by kernel_rfl) k0_479
theorem k0_481 : runE (fun K => @code K) (fun K => @nats K) 64 4 rest0 tabs p0_481 t0_481 = true := by kernel_rfl
theorem r0_481 : RT0 t0_481 p0_481 := way_T (by kernel_rfl) k0_481
theorem k0_483 : runE (fun K => @code K) (fun K => @nats K) 64 4 rest0 tabs p0_483 t0_483 = true := by kernel_rfl
theorem r0_483 : RT0 t0_483 p0_483 := way_T (by kernel_rfl) k0_483
theorem k0_485 : runE (fun K => @code K) (fun K => @nats K) 64 4 rest0 tabs p0_485 t0_485 = true := by kernel_rfl
theorem r0_485 : RT0 t0_485 p0_485 := way_T (by kernel_rfl) k0_485
theorem k0_487 : runE (fun K => @code K) (fun K => @nats K) 64 4 rest0 tabs p0_487 t0_487 = true := by kernel_rfl
theorem r0_487 : RT0 t0_487 p0_487 := way_T (by kernel_rfl) k0_487
theorem k0_489 : runE (fun K => @code K) (fun K => @nats K) 64 4 rest0 tabs p0_489 t0_489 = true := by kernel_rfl
theorem r0_489 : RT0 t0_489 p0_489 := way_T (by kernel_rfl) k0_489
theorem k0_491 : runE (fun K => @code K) (fun K => @nats K) 64 4 rest0 tabs p0_491 t0_491 = true := by kernel_rfl
theorem r0_491 : RT0 t0_491 p0_491 := way_T (by kernel_rfl) k0_491
theorem k0_493 : runE (fun K => @code K) (fun K => @nats K) 64 4 rest0 tabs p0_493 t0_493 = true := by kernel_rfl
theorem r0_493 : RT0 t0_493 p0_493 := way_T (by kernel_rfl) k0_493
theorem k0_494 : runE (fun K => @code K) (fun K => @nats K) 64 4 rest0 tabs p0_494 t0_494 = true := by kernel_rfl
theorem r0_494 : RT0 t0_494 p0_494 := way_T (by kernel_rfl) k0_494
theorem k0_496 : runE (fun K => @code K) (fun K => @nats K) 64 4 rest0 tabs p0_496 t0_496 = true := by kernel_rfl
theorem r0_496 : RT0 t0_496 p0_496 := way_T (by kernel_rfl) k0_496
theorem k0_497 : runE (fun K => @code K) (fun K => @nats K) 64 4 rest0 tabs p0_497 t0_497 = true := by kernel_rfl
theorem r0_497 : RT0 t0_497 p0_497 := way_T (by kernel_rfl) k0_497
theorem k0_498 : runE (fun K => @code K) (fun K => @nats K) 64 4 rest0 tabs p0_498 t0_498 = true := by kernel_rfl
theorem r0_498 : RT0 t0_498 p0_498 := way_T (by kernel_rfl) k0_498
theorem k1_8 : runE (fun K => @code K) (fun K => @nats K) 64 4 rest1 tabs p1_8 t1_8 = true := by kernel_rfl
theorem r1_8 : RT1 t1_8 p1_8 := way_T (by kernel_rfl) k1_8
theorem k1_9 : runE (fun K => @code K) (fun K => @nats K) 64 4 rest1 tabs p1_9 t1_9 = true := by kernel_rfl
theorem r1_9 : RT1 t1_9 p1_9 := way_T (by kernel_rfl) k1_9
theorem k1_10 : runE (fun K => @code K) (fun K => @nats K) 64 4 rest1 tabs p1_10 t1_10 = true := by kernel_rfl
theorem r1_10 : RT1 t1_10 p1_10 := way_T (by kernel_rfl) k1_10
theorem k1_12 : runE (fun K => @code K) (fun K => @nats K) 64 4 rest1 tabs p1_12 t1_12 = true := by kernel_rfl
theorem r1_12 : RT1 t1_12 p1_12 := way_T (by kernel_rfl) k1_12
theorem k1_14 : runE (fun K => @code K) (fun K => @nats K) 64 4 rest1 tabs p1_14 t1_14 = true := by kernel_rfl
theorem r1_14 : RT1 t1_14 p1_14 := way_T (by kernel_rfl) k1_14
theorem k1_18 : runE (fun K => @code K) (fun K => @nats K) 64 4 rest1 tabs p1_18 t1_18 = true := by kernel_rfl
theorem r1_18 : RT1 t1_18 p1_18 := way_T (by kernel_rfl) k1_18
theorem k1_22 : runE (fun K => @code K) (fun K => @nats K) 64 4 rest1 tabs p1_22 t1_22 = true := by kernel_rfl
theorem r1_22 : RT1 t1_22 p1_22 := way_T (by kernel_rfl) k1_22
theorem k1_46 : runE (fun K => @code K) (fun K => @nats K) 64 4 rest1 tabs p1_46 t1_46 = true := by kernel_rfl
theorem r1_46 : RT1 t1_46 p1_46 := way_T (by kernel_rfl) k1_46
theorem k1_58 : runE (fun K => @code K) (fun K => @nats K) 64 4 rest1 tabs p1_58 t1_58 = true := by kernel_rfl
theorem r1_58 : RT1 t1_58 p1_58 := way_T (by kernel_rfl) k1_58
theorem k1_60 : runE (fun K => @code K) (fun K => @nats K) 64 4 rest1 tabs p1_60 t1_60 = true := by kernel_rfl
theorem r1_60 : RT1 t1_60 p1_60 := way_T (by kernel_rfl) k1_60
theorem k1_72 : runE (fun K => @code K) (fun K => @nats K) 64 4 rest1 tabs p1_72 t1_72 = true := by kernel_rfl
theorem r1_72 : RT1 t1_72 p1_72 := way_T (by kernel_rfl) k1_72
theorem k1_73 : runE (fun K => @code K) (fun K => @nats K) 64 4 rest1 tabs p1_73 t1_73 = true := by kernel_rfl
theorem r1_73 : RT1 t1_73 p1_73 := way_T (by kernel_rfl) k1_73
theorem k1_74 : runE (fun K => @code K) (fun K => @nats K) 64 4 rest1 tabs p1_74 t1_74 = true := by kernel_rfl
theorem r1_74 : RT1 t1_74 p1_74 := way_T (by kernel_rfl) k1_74
theorem k1_80 : runE (fun K => @code K) (fun K => @nats K) 64 4 rest1 tabs p1_80 t1_80 = true := by kernel_rfl
theorem r1_80 : RT1 t1_80 p1_80 := way_T (by kernel_rfl) k1_80
theorem k1_81 : runE (fun K => @code K) (fun K => @nats K) 64 4 rest1 tabs p1_81 t1_81 = true := by kernel_rfl
theorem r1_81 : RT1 t1_81 p1_81 := way_T (by kernel_rfl) k1_81
theorem k1_82 : runE (fun K => @code K) (fun K => @nats K) 64 4 rest1 tabs p1_82 t1_82 = true := by kernel_rfl
theorem r1_82 : RT1 t1_82 p1_82 := way_T (by kernel_rfl) k1_82
theorem k1_84 : runE (fun K => @code K) (fun K => @nats K) 64 4 rest1 tabs p1_84 t1_84 = true := by kernel_rfl
theorem r1_84 : RT1 t1_84 p1_84 := way_T (by kernel_rfl) k1_84
theorem k1_86 : runE (fun K => @code K) (fun K => @nats K) 64 4 rest1 tabs p1_86 t1_86 = true := by kernel_rfl
theorem r1_86 : RT1 t1_86 p1_86 := way_T (by kernel_rfl) k1_86
theorem k1_90 : runE (fun K => @code K) (fun K => @nats K) 64 4 rest1 tabs p1_90 t1_90 = true := by kernel_rfl
theorem r1_90 : RT1 t1_90 p1_90 := way_T (by kernel_rfl) k1_90
theorem k1_94 : runE (fun K => @code K) (fun K => @nats K) 64 4 rest1 tabs p1_94 t1_94 = true := by kernel_rfl
theorem r1_94 : RT1 t1_94 p1_94 := way_T (by kernel_rfl) k1_94
theorem k1_118 : runE (fun K => @code K) (fun K => @nats K) 64 4 rest1 tabs p1_118 t1_118 = true := by kernel_rfl
theorem r1_118 : RT1 t1_118 p1_118 := way_T (by kernel_rfl) k1_118
theorem k1_130 : runE (fun K => @code K) (fun K => @nats K) 64 4 rest1 tabs p1_130 t1_130 = true := by kernel_rfl
theorem r1_130 : RT1 t1_130 p1_130 := way_T (by kernel_rfl) k1_130
theorem k1_132 : runE (fun K => @code K) (fun K => @nats K) 64 4 rest1 tabs p1_132 t1_132 = true := by kernel_rfl
theorem r1_132 : RT1 t1_132 p1_132 := way_T (by kernel_rfl) k1_132
theorem k1_144 : runE (fun K => @code K) (fun K => @nats K) 64 4 rest1 tabs p1_144 t1_144 = true := by kernel_rfl
theorem r1_144 : RT1 t1_144 p1_144 := way_T (by kernel_rfl) k1_144
theorem k1_145 : runE (fun K => @code K) (fun K => @nats K) 64 4 rest1 tabs p1_145 t1_145 = true := by kernel_rfl
theorem r1_145 : RT1 t1_145 p1_145 := way_T (by kernel_rfl) k1_145
theorem k1_146 : runE (fun K => @code K) (fun K => @nats K) 64 4 rest1 tabs p1_146 t1_146 = true := by kernel_rfl
theorem r1_146 : RT1 t1_146 p1_146 := way_T (by kernel_rfl) k1_146
theorem k4_2 : runWayL (fun K => @code K) (fun K => @nats K) 4 neg4 rest4 tabs p4_2 v4_2 = true := by kernel_rfl
theorem r4_2 : RT4 t4_2 p4_2 := way_L (by kernel_rfl) k4_2
theorem k4_4 : runWayL (fun K => @code K) (fun K => @nats K) 4 neg4 rest4 tabs p4_4 v4_4 = true := by kernel_rfl
theorem r4_4 : RT4 t4_4 p4_4 := way_L (by kernel_rfl) k4_4
theorem k4_6 : runWayL (fun K => @code K) (fun K => @nats K) 4 neg4 rest4 tabs p4_6 v4_6 = true := by kernel_rfl
theorem r4_6 : RT4 t4_6 p4_6 := way_L (by kernel_rfl) k4_6
theorem k4_8 : runWayL (fun K => @code K) (fun K => @nats K) 4 neg4 rest4 tabs p4_8 v4_8 = true := by kernel_rfl
theorem r4_8 : RT4 t4_8 p4_8 := way_L (by kernel_rfl) k4_8
theorem k4_12 : runWayL (fun K => @code K) (fun K => @nats K) 4 neg4 rest4 tabs p4_12 v4_12 = true := by kernel_rfl
theorem r4_12 : RT4 t4_12 p4_12 := way_L (by kernel_rfl) k4_12
theorem k4_13 : runWayL (fun K => @code K) (fun K => @nats K) 4 neg4 rest4 tabs p4_13 v4_13 = true := by kernel_rfl
theorem r4_13 : RT4 t4_13 p4_13 := way_L (by kernel_rfl) k4_13
theorem k5_2 : runWayL (fun K => @code K) (fun K => @nats K) 4 neg5 rest5 tabs p5_2 v5_2 = true := by kernel_rfl
theorem r5_2 : RT5 t5_2 p5_2 := way_L (by kernel_rfl) k5_2
theorem k5_4 : runWayL (fun K => @code K) (fun K => @nats K) 4 neg5 rest5 tabs p5_4 v5_4 = true := by kernel_rfl
theorem r5_4 : RT5 t5_4 p5_4 := way_L (by kernel_rfl) k5_4
theorem k5_6 : runWayL (fun K => @code K) (fun K => @nats K) 4 neg5 rest5 tabs p5_6 v5_6 = true := by kernel_rfl
theorem r5_6 : RT5 t5_6 p5_6 := way_L (by kernel_rfl) k5_6
theorem k5_8 : runWayL (fun K => @code K) (fun K => @nats K) 4 neg5 rest5 tabs p5_8 v5_8 = true := by kernel_rfl
theorem r5_8 : RT5 t5_8 p5_8 := way_L (by kernel_rfl) k5_8
theorem k5_10 : runWayL (fun K => @code K) (fun K => @nats K) 4 neg5 rest5 tabs p5_10 v5_10 = true := by kernel_rfl
theorem r5_10 : RT5 t5_10 p5_10 := way_L (by kernel_rfl) k5_10
theorem k5_12 : runWayL (fun K => @code K) (fun K => @nats K) 4 neg5 rest5 tabs p5_12 v5_12 = true := by kernel_rfl
theorem r5_12 : RT5 t5_12 p5_12 := way_L (by kernel_rfl) k5_12
theorem k5_13 : runWayL (fun K => @code K) (fun K => @nats K) 4 neg5 rest5 tabs p5_13 v5_13 = true := by kernel_rfl
theorem r5_13 : RT5 t5_13 p5_13 := way_L (by kernel_rfl) k5_13
theorem k5_14 : runWayL (fun K => @code K) (fun K => @nats K) 4 neg5 rest5 tabs p5_14 v5_14 = true := by kernel_rfl
theorem r5_14 : RT5 t5_14 p5_14 := way_L (by kernel_rfl) k5_14
end Go.Proofs.YtcghikpogkigcaaGreatDoor.R
