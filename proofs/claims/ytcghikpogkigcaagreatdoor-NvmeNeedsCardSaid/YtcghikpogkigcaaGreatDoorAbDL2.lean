/- Runs by ways. -/
import Derived.Test.YtcghikpogkigcaaGreatDoorAbDL
set_option linter.all false
set_option linter.unusedSectionVars false
set_option linter.unusedVariables false
set_option linter.unusedSimpArgs false
namespace Go.Proofs.YtcghikpogkigcaaGreatDoor.R
open Go Go.Ab Go.Proofs Go.RowKit
set_option maxRecDepth 1000000

theorem k0_97 : runE (fun K => @code K) (fun K => @nats K) 64 4 rest0 tabs p0_97 t0_97 = true := by kernel_rfl
theorem r0_97 : RT0 t0_97 p0_97 := way_T (by kernel_rfl) k0_97
theorem k0_345 : runE (fun K => @code K) (fun K => @nats K) 64 4 rest0 tabs p0_345 t0_345 = true := by kernel_rfl
theorem r0_345 : RT0 t0_345 p0_345 := way_T (by kernel_rfl) k0_345
theorem k2_118 : runE (fun K => @code K) (fun K => @nats K) 128 4 rest2 tabs p2_118 t2_118 = true := by kernel_rfl
theorem r2_118 : RT2 t2_118 p2_118 := way_T (by kernel_rfl) k2_118
theorem k2_120 : runE (fun K => @code K) (fun K => @nats K) 128 4 rest2 tabs p2_120 t2_120 = true := by kernel_rfl
theorem r2_120 : RT2 t2_120 p2_120 := way_T (by kernel_rfl) k2_120
theorem k2_122 : runE (fun K => @code K) (fun K => @nats K) 128 4 rest2 tabs p2_122 t2_122 = true := by kernel_rfl
theorem r2_122 : RT2 t2_122 p2_122 := way_T (by kernel_rfl) k2_122
theorem k2_124 : runE (fun K => @code K) (fun K => @nats K) 128 4 rest2 tabs p2_124 t2_124 = true := by kernel_rfl
theorem r2_124 : RT2 t2_124 p2_124 := way_T (by kernel_rfl) k2_124
theorem k2_128 : runE (fun K => @code K) (fun K => @nats K) 128 4 rest2 tabs p2_128 t2_128 = true := by kernel_rfl
theorem r2_128 : RT2 t2_128 p2_128 := way_T (by kernel_rfl) k2_128
theorem k2_130 : runE (fun K => @code K) (fun K => @nats K) 128 4 rest2 tabs p2_130 t2_130 = true := by kernel_rfl
theorem r2_130 : RT2 t2_130 p2_130 := way_T (by kernel_rfl) k2_130
theorem k2_132 : runE (fun K => @code K) (fun K => @nats K) 128 4 rest2 tabs p2_132 t2_132 = true := by kernel_rfl
theorem r2_132 : RT2 t2_132 p2_132 := way_T (by kernel_rfl) k2_132
theorem k2_134 : runE (fun K => @code K) (fun K => @nats K) 128 4 rest2 tabs p2_134 t2_134 = true := by kernel_rfl
theorem r2_134 : RT2 t2_134 p2_134 := way_T (by kernel_rfl) k2_134
theorem k2_140 : runE (fun K => @code K) (fun K => @nats K) 128 4 rest2 tabs p2_140 t2_140 = true := by kernel_rfl
theorem r2_140 : RT2 t2_140 p2_140 := way_T (by kernel_rfl) k2_140
theorem k2_142 : runE (fun K => @code K) (fun K => @nats K) 128 4 rest2 tabs p2_142 t2_142 = true := by kernel_rfl
theorem r2_142 : RT2 t2_142 p2_142 := way_T (by kernel_rfl) k2_142
theorem k2_143 : runE (fun K => @code K) (fun K => @nats K) 128 4 rest2 tabs p2_143 t2_143 = true := by kernel_rfl
theorem r2_143 : RT2 t2_143 p2_143 := way_T (by kernel_rfl) k2_143
theorem k2_144 : runE (fun K => @code K) (fun K => @nats K) 128 4 rest2 tabs p2_144 t2_144 = true := by kernel_rfl
theorem r2_144 : RT2 t2_144 p2_144 := way_T (by kernel_rfl) k2_144
theorem k2_214 : runE (fun K => @code K) (fun K => @nats K) 128 4 rest2 tabs p2_214 t2_214 = true := by kernel_rfl
theorem r2_214 : RT2 t2_214 p2_214 := way_T (by kernel_rfl) k2_214
theorem k2_216 : runE (fun K => @code K) (fun K => @nats K) 128 4 rest2 tabs p2_216 t2_216 = true := by kernel_rfl
theorem r2_216 : RT2 t2_216 p2_216 := way_T (by kernel_rfl) k2_216
theorem k2_218 : runE (fun K => @code K) (fun K => @nats K) 128 4 rest2 tabs p2_218 t2_218 = true := by kernel_rfl
theorem r2_218 : RT2 t2_218 p2_218 := way_T (by kernel_rfl) k2_218
theorem k2_220 : runE (fun K => @code K) (fun K => @nats K) 128 4 rest2 tabs p2_220 t2_220 = true := by kernel_rfl
theorem r2_220 : RT2 t2_220 p2_220 := way_T (by kernel_rfl) k2_220
theorem k2_222 : runE (fun K => @code K) (fun K => @nats K) 128 4 rest2 tabs p2_222 t2_222 = true := by kernel_rfl
theorem r2_222 : RT2 t2_222 p2_222 := way_T (by kernel_rfl) k2_222
theorem k2_224 : runE (fun K => @code K) (fun K => @nats K) 128 4 rest2 tabs p2_224 t2_224 = true := by kernel_rfl
theorem r2_224 : RT2 t2_224 p2_224 := way_T (by kernel_rfl) k2_224
theorem k2_226 : runE (fun K => @code K) (fun K => @nats K) 128 4 rest2 tabs p2_226 t2_226 = true := by kernel_rfl
theorem r2_226 : RT2 t2_226 p2_226 := way_T (by kernel_rfl) k2_226
theorem k2_228 : runE (fun K => @code K) (fun K => @nats K) 128 4 rest2 tabs p2_228 t2_228 = true := by kernel_rfl
theorem r2_228 : RT2 t2_228 p2_228 := way_T (by kernel_rfl) k2_228
theorem k2_232 : runE (fun K => @code K) (fun K => @nats K) 128 4 rest2 tabs p2_232 t2_232 = true := by kernel_rfl
theorem r2_232 : RT2 t2_232 p2_232 := way_T (by kernel_rfl) k2_232
theorem k2_234 : runE (fun K => @code K) (fun K => @nats K) 128 4 rest2 tabs p2_234 t2_234 = true := by kernel_rfl
theorem r2_234 : RT2 t2_234 p2_234 := way_T (by kernel_rfl) k2_234
theorem k2_236 : runE (fun K => @code K) (fun K => @nats K) 128 4 rest2 tabs p2_236 t2_236 = true := by kernel_rfl
theorem r2_236 : RT2 t2_236 p2_236 := way_T (by kernel_rfl) k2_236
theorem k2_238 : runE (fun K => @code K) (fun K => @nats K) 128 4 rest2 tabs p2_238 t2_238 = true := by kernel_rfl
theorem r2_238 : RT2 t2_238 p2_238 := way_T (by kernel_rfl) k2_238
theorem k2_244 : runE (fun K => @code K) (fun K => @nats K) 128 4 rest2 tabs p2_244 t2_244 = true := by kernel_rfl
theorem r2_244 : RT2 t2_244 p2_244 := way_T (by kernel_rfl) k2_244
theorem k2_246 : runE (fun K => @code K) (fun K => @nats K) 128 4 rest2 tabs p2_246 t2_246 = true := by kernel_rfl
theorem r2_246 : RT2 t2_246 p2_246 := way_T (by kernel_rfl) k2_246
theorem k2_247 : runE (fun K => @code K) (fun K => @nats K) 128 4 rest2 tabs p2_247 t2_247 = true := by kernel_rfl
theorem r2_247 : RT2 t2_247 p2_247 := way_T (by kernel_rfl) k2_247
theorem k2_248 : runE (fun K => @code K) (fun K => @nats K) 128 4 rest2 tabs p2_248 t2_248 = true := by kernel_rfl
theorem r2_248 : RT2 t2_248 p2_248 := way_T (by kernel_rfl) k2_248
theorem k2_372 : runE (fun K => @code K) (fun K => @nats K) 128 4 rest2 tabs p2_372 t2_372 = true := by kernel_rfl
theorem r2_372 : RT2 t2_372 p2_372 := way_T (by kernel_rfl) k2_372
theorem k2_374 : runE (fun K => @code K) (fun K => @nats K) 128 4 rest2 tabs p2_374 t2_374 = true := by kernel_rfl
theorem r2_374 : RT2 t2_374 p2_374 := way_T (by kernel_rfl) k2_374
theorem k2_376 : runE (fun K => @code K) (fun K => @nats K) 128 4 rest2 tabs p2_376 t2_376 = true := by kernel_rfl
theorem r2_376 : RT2 t2_376 p2_376 := way_T (by kernel_rfl) k2_376
theorem k2_378 : runE (fun K => @code K) (fun K => @nats K) 128 4 rest2 tabs p2_378 t2_378 = true := by kernel_rfl
theorem r2_378 : RT2 t2_378 p2_378 := way_T (by kernel_rfl) k2_378
theorem k2_380 : runE (fun K => @code K) (fun K => @nats K) 128 4 rest2 tabs p2_380 t2_380 = true := by kernel_rfl
theorem r2_380 : RT2 t2_380 p2_380 := way_T (by kernel_rfl) k2_380
theorem k2_382 : runE (fun K => @code K) (fun K => @nats K) 128 4 rest2 tabs p2_382 t2_382 = true := by kernel_rfl
theorem r2_382 : RT2 t2_382 p2_382 := way_T (by kernel_rfl) k2_382
theorem k2_384 : runE (fun K => @code K) (fun K => @nats K) 128 4 rest2 tabs p2_384 t2_384 = true := by kernel_rfl
theorem r2_384 : RT2 t2_384 p2_384 := way_T (by kernel_rfl) k2_384
theorem k2_386 : runE (fun K => @code K) (fun K => @nats K) 128 4 rest2 tabs p2_386 t2_386 = true := by kernel_rfl
theorem r2_386 : RT2 t2_386 p2_386 := way_T (by kernel_rfl) k2_386
theorem k2_390 : runE (fun K => @code K) (fun K => @nats K) 128 4 rest2 tabs p2_390 t2_390 = true := by kernel_rfl
theorem r2_390 : RT2 t2_390 p2_390 := way_T (by kernel_rfl) k2_390
theorem k2_392 : runE (fun K => @code K) (fun K => @nats K) 128 4 rest2 tabs p2_392 t2_392 = true := by kernel_rfl
theorem r2_392 : RT2 t2_392 p2_392 := way_T (by kernel_rfl) k2_392
theorem k2_394 : runE (fun K => @code K) (fun K => @nats K) 128 4 rest2 tabs p2_394 t2_394 = true := by kernel_rfl
theorem r2_394 : RT2 t2_394 p2_394 := way_T (by kernel_rfl) k2_394
theorem k2_396 : runE (fun K => @code K) (fun K => @nats K) 128 4 rest2 tabs p2_396 t2_396 = true := by kernel_rfl
theorem r2_396 : RT2 t2_396 p2_396 := way_T (by kernel_rfl) k2_396
theorem k2_402 : runE (fun K => @code K) (fun K => @nats K) 128 4 rest2 tabs p2_402 t2_402 = true := by kernel_rfl
theorem r2_402 : RT2 t2_402 p2_402 := way_T (by kernel_rfl) k2_402
theorem k2_404 : runE (fun K => @code K) (fun K => @nats K) 128 4 rest2 tabs p2_404 t2_404 = true := by kernel_rfl
theorem r2_404 : RT2 t2_404 p2_404 := way_T (by kernel_rfl) k2_404
theorem k2_405 : runE (fun K => @code K) (fun K => @nats K) 128 4 rest2 tabs p2_405 t2_405 = true := by kernel_rfl
theorem r2_405 : RT2 t2_405 p2_405 := way_T (by kernel_rfl) k2_405
theorem k2_406 : runE (fun K => @code K) (fun K => @nats K) 128 4 rest2 tabs p2_406 t2_406 = true := by kernel_rfl
theorem r2_406 : RT2 t2_406 p2_406 := way_T (by kernel_rfl) k2_406
theorem k2_478 : runE (fun K => @code K) (fun K => @nats K) 128 4 rest2 tabs p2_478 t2_478 = true := by kernel_rfl
theorem r2_478 : RT2 t2_478 p2_478 := way_T (by kernel_rfl) k2_478
theorem k2_480 : runE (fun K => @code K) (fun K => @nats K) 128 4 rest2 tabs p2_480 t2_480 = true := by kernel_rfl
theorem r2_480 : RT2 t2_480 p2_480 := way_T (by kernel_rfl) k2_480
theorem k2_482 : runE (fun K => @code K) (fun K => @nats K) 128 4 rest2 tabs p2_482 t2_482 = true := by kernel_rfl
theorem r2_482 : RT2 t2_482 p2_482 := way_T (by kernel_rfl) k2_482
end Go.Proofs.YtcghikpogkigcaaGreatDoor.R
