/- Runs by ways. -/
import Derived.Test.YtcghikpogkigcaaGreatDoorAbDL
set_option linter.all false
set_option linter.unusedSectionVars false
set_option linter.unusedVariables false
set_option linter.unusedSimpArgs false
namespace Go.Proofs.YtcghikpogkigcaaGreatDoor.R
open Go Go.Ab Go.Proofs Go.RowKit
set_option maxRecDepth 1000000

theorem k0_58 : runE (fun K => @code K) (fun K => @nats K) 64 4 rest0 tabs p0_58 t0_58 = true := by kernel_rfl
theorem r0_58 : RT0 t0_58 p0_58 := way_T (by kernel_rfl) k0_58
theorem k0_60 : runE (fun K => @code K) (fun K => @nats K) 64 4 rest0 tabs p0_60 t0_60 = true := by kernel_rfl
theorem r0_60 : RT0 t0_60 p0_60 := way_T (by kernel_rfl) k0_60
theorem k0_66 : runE (fun K => @code K) (fun K => @nats K) 64 4 rest0 tabs p0_66 t0_66 = true := by kernel_rfl
theorem r0_66 : RT0 t0_66 p0_66 := way_T (by kernel_rfl) k0_66
theorem k0_68 : runE (fun K => @code K) (fun K => @nats K) 64 4 rest0 tabs p0_68 t0_68 = true := by kernel_rfl
theorem r0_68 : RT0 t0_68 p0_68 := way_T (by kernel_rfl) k0_68
theorem k0_69 : runE (fun K => @code K) (fun K => @nats K) 64 4 rest0 tabs p0_69 t0_69 = true := by kernel_rfl
theorem r0_69 : RT0 t0_69 p0_69 := way_T (by kernel_rfl) k0_69
theorem k0_70 : runE (fun K => @code K) (fun K => @nats K) 64 4 rest0 tabs p0_70 t0_70 = true := by kernel_rfl
theorem r0_70 : RT0 t0_70 p0_70 := way_T (by kernel_rfl) k0_70
theorem k0_72 : runE (fun K => @code K) (fun K => @nats K) 64 4 rest0 tabs p0_72 t0_72 = true := by kernel_rfl
theorem r0_72 : RT0 t0_72 p0_72 := way_T (by kernel_rfl) k0_72
theorem k0_74 : runE (fun K => @code K) (fun K => @nats K) 64 4 rest0 tabs p0_74 t0_74 = true := by kernel_rfl
theorem r0_74 : RT0 t0_74 p0_74 := way_T (by kernel_rfl) k0_74
theorem k0_76 : runE (fun K => @code K) (fun K => @nats K) 64 4 rest0 tabs p0_76 t0_76 = true := by kernel_rfl
theorem r0_76 : RT0 t0_76 p0_76 := way_T (by kernel_rfl) k0_76
theorem k0_77 : runE (fun K => @code K) (fun K => @nats K) 64 4 rest0 tabs p0_77 t0_77 = true := by kernel_rfl
theorem r0_77 : RT0 t0_77 p0_77 := way_T (by kernel_rfl) k0_77
theorem k0_78 : runE (fun K => @code K) (fun K => @nats K) 64 4 rest0 tabs p0_78 t0_78 = true := by kernel_rfl
theorem r0_78 : RT0 t0_78 p0_78 := way_T (by kernel_rfl) k0_78
theorem k0_84 : runE (fun K => @code K) (fun K => @nats K) 64 4 rest0 tabs p0_84 t0_84 = true := by kernel_rfl
theorem r0_84 : RT0 t0_84 p0_84 := way_T (by kernel_rfl) k0_84
theorem k0_86 : runE (fun K => @code K) (fun K => @nats K) 64 4 rest0 tabs p0_86 t0_86 = true := by kernel_rfl
theorem r0_86 : RT0 t0_86 p0_86 := way_T (by kernel_rfl) k0_86
theorem k0_92 : runE (fun K => @code K) (fun K => @nats K) 64 4 rest0 tabs p0_92 t0_92 = true := by kernel_rfl
theorem r0_92 : RT0 t0_92 p0_92 := way_T (by kernel_rfl) k0_92
theorem k0_94 : runE (fun K => @code K) (fun K => @nats K) 64 4 rest0 tabs p0_94 t0_94 = true := by kernel_rfl
theorem r0_94 : RT0 t0_94 p0_94 := way_T (by kernel_rfl) k0_94
theorem k0_96 : runE (fun K => @code K) (fun K => @nats K) 64 4 rest0 tabs p0_96 t0_96 = true := by kernel_rfl
theorem r0_96 : RT0 t0_96 p0_96 := way_T (by kernel_rfl) k0_96
theorem k0_98 : runE (fun K => @code K) (fun K => @nats K) 64 4 rest0 tabs p0_98 t0_98 = true := by kernel_rfl
theorem r0_98 : RT0 t0_98 p0_98 := way_T (by kernel_rfl) k0_98
theorem k0_100 : runE (fun K => @code K) (fun K => @nats K) 64 4 rest0 tabs p0_100 t0_100 = true := by kernel_rfl
theorem r0_100 : RT0 t0_100 p0_100 := way_T (by kernel_rfl) k0_100
theorem k0_102 : runE (fun K => @code K) (fun K => @nats K) 64 4 rest0 tabs p0_102 t0_102 = true := by kernel_rfl
theorem r0_102 : RT0 t0_102 p0_102 := way_T (by kernel_rfl) k0_102
theorem k0_104 : runE (fun K => @code K) (fun K => @nats K) 64 4 rest0 tabs p0_104 t0_104 = true := by kernel_rfl
theorem r0_104 : RT0 t0_104 p0_104 := way_T (by kernel_rfl) k0_104
theorem k0_105 : runE (fun K => @code K) (fun K => @nats K) 64 4 rest0 tabs p0_105 t0_105 = true := by kernel_rfl
theorem r0_105 : RT0 t0_105 p0_105 := way_T (by kernel_rfl) k0_105
theorem k0_106 : runE (fun K => @code K) (fun K => @nats K) 64 4 rest0 tabs p0_106 t0_106 = true := by kernel_rfl
theorem r0_106 : RT0 t0_106 p0_106 := way_T (by kernel_rfl) k0_106
theorem k0_114 : runE (fun K => @code K) (fun K => @nats K) 64 4 rest0 tabs p0_114 t0_114 = true := by kernel_rfl
theorem r0_114 : RT0 t0_114 p0_114 := way_T (by kernel_rfl) k0_114
theorem k0_116 : runE (fun K => @code K) (fun K => @nats K) 64 4 rest0 tabs p0_116 t0_116 = true := by kernel_rfl
theorem r0_116 : RT0 t0_116 p0_116 := way_T (by kernel_rfl) k0_116
theorem k0_122 : runE (fun K => @code K) (fun K => @nats K) 64 4 rest0 tabs p0_122 t0_122 = true := by kernel_rfl
theorem r0_122 : RT0 t0_122 p0_122 := way_T (by kernel_rfl) k0_122
theorem k0_124 : runE (fun K => @code K) (fun K => @nats K) 64 4 rest0 tabs p0_124 t0_124 = true := by kernel_rfl
theorem r0_124 : RT0 t0_124 p0_124 := way_T (by kernel_rfl) k0_124
theorem k0_125 : runE (fun K => @code K) (fun K => @nats K) 64 4 rest0 tabs p0_125 t0_125 = true := by kernel_rfl
theorem r0_125 : RT0 t0_125 p0_125 := way_T (by kernel_rfl) k0_125
theorem k0_126 : runE (fun K => @code K) (fun K => @nats K) 64 4 rest0 tabs p0_126 t0_126 = true := by kernel_rfl
theorem r0_126 : RT0 t0_126 p0_126 := way_T (by kernel_rfl) k0_126
theorem k0_128 : runE (fun K => @code K) (fun K => @nats K) 64 4 rest0 tabs p0_128 t0_128 = true := by kernel_rfl
theorem r0_128 : RT0 t0_128 p0_128 := way_T (by kernel_rfl) k0_128
theorem k0_130 : runE (fun K => @code K) (fun K => @nats K) 64 4 rest0 tabs p0_130 t0_130 = true := by kernel_rfl
theorem r0_130 : RT0 t0_130 p0_130 := way_T (by kernel_rfl) k0_130
theorem k0_132 : runE (fun K => @code K) (fun K => @nats K) 64 4 rest0 tabs p0_132 t0_132 = true := by kernel_rfl
theorem r0_132 : RT0 t0_132 p0_132 := way_T (by kernel_rfl) k0_132
theorem k0_133 : runE (fun K => @code K) (fun K => @nats K) 64 4 rest0 tabs p0_133 t0_133 = true := by kernel_rfl
theorem r0_133 : RT0 t0_133 p0_133 := way_T (by kernel_rfl) k0_133
theorem k0_134 : runE (fun K => @code K) (fun K => @nats K) 64 4 rest0 tabs p0_134 t0_134 = true := by kernel_rfl
theorem r0_134 : RT0 t0_134 p0_134 := way_T (by kernel_rfl) k0_134
theorem k0_142 : runE (fun K => @code K) (fun K => @nats K) 64 4 rest0 tabs p0_142 t0_142 = true := by kernel_rfl
theorem r0_142 : RT0 t0_142 p0_142 := way_T (by kernel_rfl) k0_142
theorem k0_148 : runE (fun K => @code K) (fun K => @nats K) 64 4 rest0 tabs p0_148 t0_148 = true := by kernel_rfl
theorem r0_148 : RT0 t0_148 p0_148 := way_T (by kernel_rfl) k0_148
theorem k0_150 : runE (fun K => @code K) (fun K => @nats K) 64 4 rest0 tabs p0_150 t0_150 = true := by kernel_rfl
theorem r0_150 : RT0 t0_150 p0_150 := way_T (by kernel_rfl) k0_150
theorem k0_151 : runE (fun K => @code K) (fun K => @nats K) 64 4 rest0 tabs p0_151 t0_151 = true := by kernel_rfl
theorem r0_151 : RT0 t0_151 p0_151 := way_T (by kernel_rfl) k0_151
theorem k0_152 : runE (fun K => @code K) (fun K => @nats K) 64 4 rest0 tabs p0_152 t0_152 = true := by kernel_rfl
theorem r0_152 : RT0 t0_152 p0_152 := way_T (by kernel_rfl) k0_152
theorem k0_154 : runE (fun K => @code K) (fun K => @nats K) 64 4 rest0 tabs p0_154 t0_154 = true := by kernel_rfl
theorem r0_154 : RT0 t0_154 p0_154 := way_T (by kernel_rfl) k0_154
theorem k0_156 : runE (fun K => @code K) (fun K => @nats K) 64 4 rest0 tabs p0_156 t0_156 = true := by kernel_rfl
theorem r0_156 : RT0 t0_156 p0_156 := way_T (by kernel_rfl) k0_156
theorem k0_158 : runE (fun K => @code K) (fun K => @nats K) 64 4 rest0 tabs p0_158 t0_158 = true := by kernel_rfl
theorem r0_158 : RT0 t0_158 p0_158 := way_T (by kernel_rfl) k0_158
theorem k0_159 : runE (fun K => @code K) (fun K => @nats K) 64 4 rest0 tabs p0_159 t0_159 = true := by kernel_rfl
theorem r0_159 : RT0 t0_159 p0_159 := way_T (by kernel_rfl) k0_159
theorem k0_160 : runE (fun K => @code K) (fun K => @nats K) 64 4 rest0 tabs p0_160 t0_160 = true := by kernel_rfl
theorem r0_160 : RT0 t0_160 p0_160 := way_T (by kernel_rfl) k0_160
theorem k0_176 : runE (fun K => @code K) (fun K => @nats K) 64 4 rest0 tabs p0_176 t0_176 = true := by kernel_rfl
theorem r0_176 : RT0 t0_176 p0_176 := way_T (by kernel_rfl) k0_176
theorem k0_200 : runE (fun K => @code K) (fun K => @nats K) 64 4 rest0 tabs p0_200 t0_200 = true := by kernel_rfl
theorem r0_200 : RT0 t0_200 p0_200 := way_T (by kernel_rfl) k0_200
theorem k0_212 : runE (fun K => @code K) (fun K => @nats K) 64 4 rest0 tabs p0_212 t0_212 = true := by kernel_rfl
theorem r0_212 : RT0 t0_212 p0_212 := way_T (by kernel_rfl) k0_212
theorem k0_224 : runE (fun K => @code K) (fun K => @nats K) 64 4 rest0 tabs p0_224 t0_224 = true := by kernel_rfl
theorem r0_224 : RT0 t0_224 p0_224 := way_T (by kernel_rfl) k0_224
theorem k0_306 : runE (fun K => @code K) (fun K => @nats K) 64 4 rest0 tabs p0_306 t0_306 = true := by kernel_rfl
theorem r0_306 : RT0 t0_306 p0_306 := way_T (by kernel_rfl) k0_306
theorem k0_308 : runE (fun K => @code K) (fun K => @nats K) 64 4 rest0 tabs p0_308 t0_308 = true := by kernel_rfl
theorem r0_308 : RT0 t0_308 p0_308 := way_T (by kernel_rfl) k0_308
theorem k0_314 : runE (fun K => @code K) (fun K => @nats K) 64 4 rest0 tabs p0_314 t0_314 = true := by kernel_rfl
theorem r0_314 : RT0 t0_314 p0_314 := way_T (by kernel_rfl) k0_314
theorem k0_316 : runE (fun K => @code K) (fun K => @nats K) 64 4 rest0 tabs p0_316 t0_316 = true := by kernel_rfl
theorem r0_316 : RT0 t0_316 p0_316 := way_T (by kernel_rfl) k0_316
theorem k0_317 : runE (fun K => @code K) (fun K => @nats K) 64 4 rest0 tabs p0_317 t0_317 = true := by kernel_rfl
theorem r0_317 : RT0 t0_317 p0_317 := way_T (by kernel_rfl) k0_317
theorem k0_318 : runE (fun K => @code K) (fun K => @nats K) 64 4 rest0 tabs p0_318 t0_318 = true := by kernel_rfl
theorem r0_318 : RT0 t0_318 p0_318 := way_T (by kernel_rfl) k0_318
theorem k0_320 : runE (fun K => @code K) (fun K => @nats K) 64 4 rest0 tabs p0_320 t0_320 = true := by kernel_rfl
theorem r0_320 : RT0 t0_320 p0_320 := way_T (by kernel_rfl) k0_320
theorem k0_322 : runE (fun K => @code K) (fun K => @nats K) 64 4 rest0 tabs p0_322 t0_322 = true := by kernel_rfl
theorem r0_322 : RT0 t0_322 p0_322 := way_T (by kernel_rfl) k0_322
theorem k0_324 : runE (fun K => @code K) (fun K => @nats K) 64 4 rest0 tabs p0_324 t0_324 = true := by kernel_rfl
theorem r0_324 : RT0 t0_324 p0_324 := way_T (by kernel_rfl) k0_324
theorem k0_325 : runE (fun K => @code K) (fun K => @nats K) 64 4 rest0 tabs p0_325 t0_325 = true := by kernel_rfl
theorem r0_325 : RT0 t0_325 p0_325 := way_T (by kernel_rfl) k0_325
theorem k0_326 : runE (fun K => @code K) (fun K => @nats K) 64 4 rest0 tabs p0_326 t0_326 = true := by kernel_rfl
theorem r0_326 : RT0 t0_326 p0_326 := way_T (by kernel_rfl) k0_326
theorem k0_332 : runE (fun K => @code K) (fun K => @nats K) 64 4 rest0 tabs p0_332 t0_332 = true := by kernel_rfl
theorem r0_332 : RT0 t0_332 p0_332 := way_T (by kernel_rfl) k0_332
theorem k0_334 : runE (fun K => @code K) (fun K => @nats K) 64 4 rest0 tabs p0_334 t0_334 = true := by kernel_rfl
theorem r0_334 : RT0 t0_334 p0_334 := way_T (by kernel_rfl) k0_334
theorem k0_340 : runE (fun K => @code K) (fun K => @nats K) 64 4 rest0 tabs p0_340 t0_340 = true := by kernel_rfl
theorem r0_340 : RT0 t0_340 p0_340 := way_T (by kernel_rfl) k0_340
theorem k0_342 : runE (fun K => @code K) (fun K => @nats K) 64 4 rest0 tabs p0_342 t0_342 = true := by kernel_rfl
theorem r0_342 : RT0 t0_342 p0_342 := way_T (by kernel_rfl) k0_342
theorem k0_344 : runE (fun K => @code K) (fun K => @nats K) 64 4 rest0 tabs p0_344 t0_344 = true := by kernel_rfl
theorem r0_344 : RT0 t0_344 p0_344 := way_T (by kernel_rfl) k0_344
theorem k0_346 : runE (fun K => @code K) (fun K => @nats K) 64 4 rest0 tabs p0_346 t0_346 = true := by kernel_rfl
theorem r0_346 : RT0 t0_346 p0_346 := way_T (by kernel_rfl) k0_346
theorem k0_348 : runE (fun K => @code K) (fun K => @nats K) 64 4 rest0 tabs p0_348 t0_348 = true := by kernel_rfl
theorem r0_348 : RT0 t0_348 p0_348 := way_T (by kernel_rfl) k0_348
theorem k0_350 : runE (fun K => @code K) (fun K => @nats K) 64 4 rest0 tabs p0_350 t0_350 = true := by kernel_rfl
theorem r0_350 : RT0 t0_350 p0_350 := way_T (by kernel_rfl) k0_350
theorem k0_352 : runE (fun K => @code K) (fun K => @nats K) 64 4 rest0 tabs p0_352 t0_352 = true := by kernel_rfl
theorem r0_352 : RT0 t0_352 p0_352 := way_T (by kernel_rfl) k0_352
theorem k0_353 : runE (fun K => @code K) (fun K => @nats K) 64 4 rest0 tabs p0_353 t0_353 = true := by kernel_rfl
theorem r0_353 : RT0 t0_353 p0_353 := way_T (by kernel_rfl) k0_353
theorem k0_354 : runE (fun K => @code K) (fun K => @nats K) 64 4 rest0 tabs p0_354 t0_354 = true := by kernel_rfl
theorem r0_354 : RT0 t0_354 p0_354 := way_T (by kernel_rfl) k0_354
theorem k0_362 : runE (fun K => @code K) (fun K => @nats K) 64 4 rest0 tabs p0_362 t0_362 = true := by kernel_rfl
theorem r0_362 : RT0 t0_362 p0_362 := way_T (by kernel_rfl) k0_362
theorem k0_364 : runE (fun K => @code K) (fun K => @nats K) 64 4 rest0 tabs p0_364 t0_364 = true := by kernel_rfl
theorem r0_364 : RT0 t0_364 p0_364 := way_T (by kernel_rfl) k0_364
theorem k0_370 : runE (fun K => @code K) (fun K => @nats K) 64 4 rest0 tabs p0_370 t0_370 = true := by kernel_rfl
theorem r0_370 : RT0 t0_370 p0_370 := way_T (by kernel_rfl) k0_370
theorem k0_372 : runE (fun K => @code K) (fun K => @nats K) 64 4 rest0 tabs p0_372 t0_372 = true := by kernel_rfl
theorem r0_372 : RT0 t0_372 p0_372 := way_T (by kernel_rfl) k0_372
theorem k0_373 : runE (fun K => @code K) (fun K => @nats K) 64 4 rest0 tabs p0_373 t0_373 = true := by kernel_rfl
theorem r0_373 : RT0 t0_373 p0_373 := way_T (by kernel_rfl) k0_373
theorem k0_374 : runE (fun K => @code K) (fun K => @nats K) 64 4 rest0 tabs p0_374 t0_374 = true := by kernel_rfl
theorem r0_374 : RT0 t0_374 p0_374 := way_T (by kernel_rfl) k0_374
theorem k0_376 : runE (fun K => @code K) (fun K => @nats K) 64 4 rest0 tabs p0_376 t0_376 = true := by kernel_rfl
theorem r0_376 : RT0 t0_376 p0_376 := way_T (by kernel_rfl) k0_376
theorem k0_378 : runE (fun K => @code K) (fun K => @nats K) 64 4 rest0 tabs p0_378 t0_378 = true := by kernel_rfl
theorem r0_378 : RT0 t0_378 p0_378 := way_T (by kernel_rfl) k0_378
theorem k0_380 : runE (fun K => @code K) (fun K => @nats K) 64 4 rest0 tabs p0_380 t0_380 = true := by kernel_rfl
theorem r0_380 : RT0 t0_380 p0_380 := way_T (by kernel_rfl) k0_380
theorem k0_381 : runE (fun K => @code K) (fun K => @nats K) 64 4 rest0 tabs p0_381 t0_381 = true := by kernel_rfl
theorem r0_381 : RT0 t0_381 p0_381 := way_T (by kernel_rfl) k0_381
theorem k0_382 : runE (fun K => @code K) (fun K => @nats K) 64 4 rest0 tabs p0_382 t0_382 = true := by kernel_rfl
theorem r0_382 : RT0 t0_382 p0_382 := way_T (by kernel_rfl) k0_382
theorem k0_390 : runE (fun K => @code K) (fun K => @nats K) 64 4 rest0 tabs p0_390 t0_390 = true := by kernel_rfl
theorem r0_390 : RT0 t0_390 p0_390 := way_T (by kernel_rfl) k0_390
theorem k0_392 : runE (fun K => @code K) (fun K => @nats K) 64 4 rest0 tabs p0_392 t0_392 = true := by kernel_rfl
theorem r0_392 : RT0 t0_392 p0_392 := way_T (by kernel_rfl) k0_392
theorem k0_396 : runE (fun K => @code K) (fun K => @nats K) 64 4 rest0 tabs p0_396 t0_396 = true := by kernel_rfl
theorem r0_396 : RT0 t0_396 p0_396 := way_T (by kernel_rfl) k0_396
theorem k0_398 : runE (fun K => @code K) (fun K => @nats K) 64 4 rest0 tabs p0_398 t0_398 = true := by kernel_rfl
theorem r0_398 : RT0 t0_398 p0_398 := way_T (by kernel_rfl) k0_398
theorem k0_399 : runE (fun K => @code K) (fun K => @nats K) 64 4 rest0 tabs p0_399 t0_399 = true := by kernel_rfl
theorem r0_399 : RT0 t0_399 p0_399 := way_T (by kernel_rfl) k0_399
theorem k0_400 : runE (fun K => @code K) (fun K => @nats K) 64 4 rest0 tabs p0_400 t0_400 = true := by kernel_rfl
theorem r0_400 : RT0 t0_400 p0_400 := way_T (by kernel_rfl) k0_400
theorem k0_402 : runE (fun K => @code K) (fun K => @nats K) 64 4 rest0 tabs p0_402 t0_402 = true := by kernel_rfl
theorem r0_402 : RT0 t0_402 p0_402 := way_T (by kernel_rfl) k0_402
theorem k0_404 : runE (fun K => @code K) (fun K => @nats K) 64 4 rest0 tabs p0_404 t0_404 = true := by kernel_rfl
theorem r0_404 : RT0 t0_404 p0_404 := way_T (by kernel_rfl) k0_404
theorem k0_406 : runE (fun K => @code K) (fun K => @nats K) 64 4 rest0 tabs p0_406 t0_406 = true := by kernel_rfl
theorem r0_406 : RT0 t0_406 p0_406 := way_T (by kernel_rfl) k0_406
theorem k0_407 : runE (fun K => @code K) (fun K => @nats K) 64 4 rest0 tabs p0_407 t0_407 = true := by kernel_rfl
theorem r0_407 : RT0 t0_407 p0_407 := way_T (by kernel_rfl) k0_407
theorem k0_408 : runE (fun K => @code K) (fun K => @nats K) 64 4 rest0 tabs p0_408 t0_408 = true := by kernel_rfl
theorem r0_408 : RT0 t0_408 p0_408 := way_T (by kernel_rfl) k0_408
theorem k0_424 : runE (fun K => @code K) (fun K => @nats K) 64 4 rest0 tabs p0_424 t0_424 = true := by kernel_rfl
theorem r0_424 : RT0 t0_424 p0_424 := way_T (by kernel_rfl) k0_424
theorem k0_448 : runE (fun K => @code K) (fun K => @nats K) 64 4 rest0 tabs p0_448 t0_448 = true := by kernel_rfl
theorem r0_448 : RT0 t0_448 p0_448 := way_T (by kernel_rfl) k0_448
theorem k0_460 : runE (fun K => @code K) (fun K => @nats K) 64 4 rest0 tabs p0_460 t0_460 = true := by kernel_rfl
theorem r0_460 : RT0 t0_460 p0_460 := way_T (by kernel_rfl) k0_460
theorem k0_472 : runE (fun K => @code K) (fun K => @nats K) 64 4 rest0 tabs p0_472 t0_472 = true := by kernel_rfl
theorem r0_472 : RT0 t0_472 p0_472 := way_T (by kernel_rfl) k0_472
theorem k0_474 : runE (fun K => @code K) (fun K => @nats K) 64 4 rest0 tabs p0_474 t0_474 = true := by kernel_rfl
theorem r0_474 : RT0 t0_474 p0_474 := way_T (by kernel_rfl) k0_474
theorem k1_69 : runE (fun K => @code K) (fun K => @nats K) 64 4 rest1 tabs p1_69 t1_69 = true := by kernel_rfl
theorem r1_69 : RT1 t1_69 p1_69 := way_T (by kernel_rfl) k1_69
theorem k1_141 : runE (fun K => @code K) (fun K => @nats K) 64 4 rest1 tabs p1_141 t1_141 = true := by kernel_rfl
theorem r1_141 : RT1 t1_141 p1_141 := way_T (by kernel_rfl) k1_141
end Go.Proofs.YtcghikpogkigcaaGreatDoor.R
