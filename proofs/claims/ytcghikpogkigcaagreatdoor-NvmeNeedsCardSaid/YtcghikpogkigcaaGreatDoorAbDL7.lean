/- Runs by ways. -/
import Derived.Test.YtcghikpogkigcaaGreatDoorAbDL
set_option linter.all false
set_option linter.unusedSectionVars false
set_option linter.unusedVariables false
set_option linter.unusedSimpArgs false
namespace Go.Proofs.YtcghikpogkigcaaGreatDoor.R
open Go Go.Ab Go.Proofs Go.RowKit
set_option maxRecDepth 1000000

theorem k0_47 : runE (fun K => @code K) (fun K => @nats K) 64 4 rest0 tabs p0_47 t0_47 = true := by kernel_rfl
theorem r0_47 : RT0 t0_47 p0_47 := way_T (by kernel_rfl) k0_47
theorem k0_62 : runE (fun K => @code K) (fun K => @nats K) 64 4 rest0 tabs p0_62 t0_62 = true := by kernel_rfl
theorem r0_62 : RT0 t0_62 p0_62 := way_T (by kernel_rfl) k0_62
theorem k0_63 : runE (fun K => @code K) (fun K => @nats K) 64 4 rest0 tabs p0_63 t0_63 = true := by kernel_rfl
theorem r0_63 : RT0 t0_63 p0_63 := way_T (by kernel_rfl) k0_63
theorem k0_64 : runE (fun K => @code K) (fun K => @nats K) 64 4 rest0 tabs p0_64 t0_64 = true := by kernel_rfl
theorem r0_64 : RT0 t0_64 p0_64 := way_T (by kernel_rfl) k0_64
theorem k0_88 : runE (fun K => @code K) (fun K => @nats K) 64 4 rest0 tabs p0_88 t0_88 = true := by kernel_rfl
theorem r0_88 : RT0 t0_88 p0_88 := way_T (by kernel_rfl) k0_88
theorem k0_89 : runE (fun K => @code K) (fun K => @nats K) 64 4 rest0 tabs p0_89 t0_89 = true := by kernel_rfl
theorem r0_89 : RT0 t0_89 p0_89 := way_T (by kernel_rfl) k0_89
theorem k0_90 : runE (fun K => @code K) (fun K => @nats K) 64 4 rest0 tabs p0_90 t0_90 = true := by kernel_rfl
theorem r0_90 : RT0 t0_90 p0_90 := way_T (by kernel_rfl) k0_90
theorem k0_118 : runE (fun K => @code K) (fun K => @nats K) 64 4 rest0 tabs p0_118 t0_118 = true := by kernel_rfl
theorem r0_118 : RT0 t0_118 p0_118 := way_T (by kernel_rfl) k0_118
theorem k0_120 : runE (fun K => @code K) (fun K => @nats K) 64 4 rest0 tabs p0_120 t0_120 = true := by kernel_rfl
theorem r0_120 : RT0 t0_120 p0_120 := way_T (by kernel_rfl) k0_120
theorem k0_144 : runE (fun K => @code K) (fun K => @nats K) 64 4 rest0 tabs p0_144 t0_144 = true := by kernel_rfl
theorem r0_144 : RT0 t0_144 p0_144 := way_T (by kernel_rfl) k0_144
theorem k0_145 : runE (fun K => @code K) (fun K => @nats K) 64 4 rest0 tabs p0_145 t0_145 = true := by kernel_rfl
theorem r0_145 : RT0 t0_145 p0_145 := way_T (by kernel_rfl) k0_145
theorem k0_175 : runE (fun K => @code K) (fun K => @nats K) 64 4 rest0 tabs p0_175 t0_175 = true := by kernel_rfl
theorem r0_175 : RT0 t0_175 p0_175 := way_T (by kernel_rfl) k0_175
theorem k0_187 : runE (fun K => @code K) (fun K => @nats K) 64 4 rest0 tabs p0_187 t0_187 = true := by kernel_rfl
theorem r0_187 : RT0 t0_187 p0_187 := way_T (by kernel_rfl) k0_187
theorem k0_199 : runE (fun K => @code K) (fun K => @nats K) 64 4 rest0 tabs p0_199 t0_199 = true := by kernel_rfl
theorem r0_199 : RT0 t0_199 p0_199 := way_T (by kernel_rfl) k0_199
theorem k0_211 : runE (fun K => @code K) (fun K => @nats K) 64 4 rest0 tabs p0_211 t0_211 = true := by kernel_rfl
theorem r0_211 : RT0 t0_211 p0_211 := way_T (by kernel_rfl) k0_211
theorem k0_225 : runE (fun K => @code K) (fun K => @nats K) 64 4 rest0 tabs p0_225 t0_225 = true := by kernel_rfl
theorem r0_225 : RT0 t0_225 p0_225 := way_T (by kernel_rfl) k0_225
theorem k0_295 : runE (fun K => @code K) (fun K => @nats K) 64 4 rest0 tabs p0_295 t0_295 = true := by kernel_rfl
theorem r0_295 : RT0 t0_295 p0_295 := way_T (by kernel_rfl) k0_295
theorem k0_310 : runE (fun K => @code K) (fun K => @nats K) 64 4 rest0 tabs p0_310 t0_310 = true := by kernel_rfl
theorem r0_310 : RT0 t0_310 p0_310 := way_T (by kernel_rfl) k0_310
theorem k0_311 : runE (fun K => @code K) (fun K => @nats K) 64 4 rest0 tabs p0_311 t0_311 = true := by kernel_rfl
theorem r0_311 : RT0 t0_311 p0_311 := way_T (by kernel_rfl) k0_311
theorem k0_312 : runE (fun K => @code K) (fun K => @nats K) 64 4 rest0 tabs p0_312 t0_312 = true := by kernel_rfl
theorem r0_312 : RT0 t0_312 p0_312 := way_T (by kernel_rfl) k0_312
theorem k0_336 : runE (fun K => @code K) (fun K => @nats K) 64 4 rest0 tabs p0_336 t0_336 = true := by kernel_rfl
theorem r0_336 : RT0 t0_336 p0_336 := way_T (by kernel_rfl) k0_336
theorem k0_337 : runE (fun K => @code K) (fun K => @nats K) 64 4 rest0 tabs p0_337 t0_337 = true := by kernel_rfl
theorem r0_337 : RT0 t0_337 p0_337 := way_T (by kernel_rfl) k0_337
theorem k0_338 : runE (fun K => @code K) (fun K => @nats K) 64 4 rest0 tabs p0_338 t0_338 = true := by kernel_rfl
theorem r0_338 : RT0 t0_338 p0_338 := way_T (by kernel_rfl) k0_338
theorem k0_366 : runE (fun K => @code K) (fun K => @nats K) 64 4 rest0 tabs p0_366 t0_366 = true := by kernel_rfl
theorem r0_366 : RT0 t0_366 p0_366 := way_T (by kernel_rfl) k0_366
theorem k0_367 : runE (fun K => @code K) (fun K => @nats K) 64 4 rest0 tabs p0_367 t0_367 = true := by kernel_rfl
theorem r0_367 : RT0 t0_367 p0_367 := way_T (by kernel_rfl) k0_367
theorem k0_368 : runE (fun K => @code K) (fun K => @nats K) 64 4 rest0 tabs p0_368 t0_368 = true := by kernel_rfl
theorem r0_368 : RT0 t0_368 p0_368 := way_T (by kernel_rfl) k0_368
theorem k0_393 : runE (fun K => @code K) (fun K => @nats K) 64 4 rest0 tabs p0_393 t0_393 = true := by kernel_rfl
theorem r0_393 : RT0 t0_393 p0_393 := way_T (by kernel_rfl) k0_393
theorem k0_394 : runE (fun K => @code K) (fun K => @nats K) 64 4 rest0 tabs p0_394 t0_394 = true := by kernel_rfl
theorem r0_394 : RT0 t0_394 p0_394 := way_T (by kernel_rfl) k0_394
theorem k0_423 : runE (fun K => @code K) (fun K => @nats K) 64 4 rest0 tabs p0_423 t0_423 = true := by kernel_rfl
theorem r0_423 : RT0 t0_423 p0_423 := way_T (by kernel_rfl) k0_423
theorem k0_435 : runE (fun K => @code K) (fun K => @nats K) 64 4 rest0 tabs p0_435 t0_435 = true := by kernel_rfl
theorem r0_435 : RT0 t0_435 p0_435 := way_T (by kernel_rfl) k0_435
theorem k0_447 : runE (fun K => @code K) (fun K => @nats K) 64 4 rest0 tabs p0_447 t0_447 = true := by kernel_rfl
theorem r0_447 : RT0 t0_447 p0_447 := way_T (by kernel_rfl) k0_447
theorem k0_459 : runE (fun K => @code K) (fun K => @nats K) 64 4 rest0 tabs p0_459 t0_459 = true := by kernel_rfl
theorem r0_459 : RT0 t0_459 p0_459 := way_T (by kernel_rfl) k0_459
theorem k0_473 : runE (fun K => @code K) (fun K => @nats K) 64 4 rest0 tabs p0_473 t0_473 = true := by kernel_rfl
theorem r0_473 : RT0 t0_473 p0_473 := way_T (by kernel_rfl) k0_473
theorem k2_8 : runE (fun K => @code K) (fun K => @nats K) 128 4 rest2 tabs p2_8 t2_8 = true := by kernel_rfl
theorem r2_8 : RT2 t2_8 p2_8 := way_T (by kernel_rfl) k2_8
theorem k2_10 : runE (fun K => @code K) (fun K => @nats K) 128 4 rest2 tabs p2_10 t2_10 = true := by kernel_rfl
theorem r2_10 : RT2 t2_10 p2_10 := way_T (by kernel_rfl) k2_10
theorem k2_50 : runE (fun K => @code K) (fun K => @nats K) 128 4 rest2 tabs p2_50 t2_50 = true := by kernel_rfl
theorem r2_50 : RT2 t2_50 p2_50 := way_T (by kernel_rfl) k2_50
theorem k2_262 : runE (fun K => @code K) (fun K => @nats K) 128 4 rest2 tabs p2_262 t2_262 = true := by kernel_rfl
theorem r2_262 : RT2 t2_262 p2_262 := way_T (by kernel_rfl) k2_262
theorem k2_263 : runE (fun K => @code K) (fun K => @nats K) 128 4 rest2 tabs p2_263 t2_263 = true := by kernel_rfl
theorem r2_263 : RT2 t2_263 p2_263 := way_T (by kernel_rfl) k2_263
theorem k2_264 : runE (fun K => @code K) (fun K => @nats K) 128 4 rest2 tabs p2_264 t2_264 = true := by kernel_rfl
theorem r2_264 : RT2 t2_264 p2_264 := way_T (by kernel_rfl) k2_264
theorem k2_270 : runE (fun K => @code K) (fun K => @nats K) 128 4 rest2 tabs p2_270 t2_270 = true := by kernel_rfl
theorem r2_270 : RT2 t2_270 p2_270 := way_T (by kernel_rfl) k2_270
theorem k2_272 : runE (fun K => @code K) (fun K => @nats K) 128 4 rest2 tabs p2_272 t2_272 = true := by kernel_rfl
theorem r2_272 : RT2 t2_272 p2_272 := way_T (by kernel_rfl) k2_272
theorem k2_312 : runE (fun K => @code K) (fun K => @nats K) 128 4 rest2 tabs p2_312 t2_312 = true := by kernel_rfl
theorem r2_312 : RT2 t2_312 p2_312 := way_T (by kernel_rfl) k2_312
theorem k2_524 : runE (fun K => @code K) (fun K => @nats K) 128 4 rest2 tabs p2_524 t2_524 = true := by kernel_rfl
theorem r2_524 : RT2 t2_524 p2_524 := way_T (by kernel_rfl) k2_524
theorem k2_525 : runE (fun K => @code K) (fun K => @nats K) 128 4 rest2 tabs p2_525 t2_525 = true := by kernel_rfl
theorem r2_525 : RT2 t2_525 p2_525 := way_T (by kernel_rfl) k2_525
theorem k2_526 : runE (fun K => @code K) (fun K => @nats K) 128 4 rest2 tabs p2_526 t2_526 = true := by kernel_rfl
theorem r2_526 : RT2 t2_526 p2_526 := way_T (by kernel_rfl) k2_526
theorem k3_8 : runE (fun K => @code K) (fun K => @nats K) 128 4 rest3 tabs p3_8 t3_8 = true := by kernel_rfl
theorem r3_8 : RT3 t3_8 p3_8 := way_T (by kernel_rfl) k3_8
theorem k3_10 : runE (fun K => @code K) (fun K => @nats K) 128 4 rest3 tabs p3_10 t3_10 = true := by kernel_rfl
theorem r3_10 : RT3 t3_10 p3_10 := way_T (by kernel_rfl) k3_10
theorem k3_50 : runE (fun K => @code K) (fun K => @nats K) 128 4 rest3 tabs p3_50 t3_50 = true := by kernel_rfl
theorem r3_50 : RT3 t3_50 p3_50 := way_T (by kernel_rfl) k3_50
theorem k3_122 : runE (fun K => @code K) (fun K => @nats K) 128 4 rest3 tabs p3_122 t3_122 = true := by kernel_rfl
theorem r3_122 : RT3 t3_122 p3_122 := way_T (by kernel_rfl) k3_122
theorem k3_123 : runE (fun K => @code K) (fun K => @nats K) 128 4 rest3 tabs p3_123 t3_123 = true := by kernel_rfl
theorem r3_123 : RT3 t3_123 p3_123 := way_T (by kernel_rfl) k3_123
theorem k3_124 : runE (fun K => @code K) (fun K => @nats K) 128 4 rest3 tabs p3_124 t3_124 = true := by kernel_rfl
theorem r3_124 : RT3 t3_124 p3_124 := way_T (by kernel_rfl) k3_124
theorem k3_130 : runE (fun K => @code K) (fun K => @nats K) 128 4 rest3 tabs p3_130 t3_130 = true := by kernel_rfl
theorem r3_130 : RT3 t3_130 p3_130 := way_T (by kernel_rfl) k3_130
theorem k3_132 : runE (fun K => @code K) (fun K => @nats K) 128 4 rest3 tabs p3_132 t3_132 = true := by kernel_rfl
theorem r3_132 : RT3 t3_132 p3_132 := way_T (by kernel_rfl) k3_132
theorem k3_158 : runE (fun K => @code K) (fun K => @nats K) 128 4 rest3 tabs p3_158 t3_158 = true := by kernel_rfl
theorem r3_158 : RT3 t3_158 p3_158 := way_T (by kernel_rfl) k3_158
theorem k3_164 : runE (fun K => @code K) (fun K => @nats K) 128 4 rest3 tabs p3_164 t3_164 = true := by kernel_rfl
theorem r3_164 : RT3 t3_164 p3_164 := way_T (by kernel_rfl) k3_164
theorem k3_168 : runE (fun K => @code K) (fun K => @nats K) 128 4 rest3 tabs p3_168 t3_168 = true := by kernel_rfl
theorem r3_168 : RT3 t3_168 p3_168 := way_T (by kernel_rfl) k3_168
theorem k3_169 : runE (fun K => @code K) (fun K => @nats K) 128 4 rest3 tabs p3_169 t3_169 = true := by kernel_rfl
theorem r3_169 : RT3 t3_169 p3_169 := way_T (by kernel_rfl) k3_169
theorem k3_170 : runE (fun K => @code K) (fun K => @nats K) 128 4 rest3 tabs p3_170 t3_170 = true := by kernel_rfl
theorem r3_170 : RT3 t3_170 p3_170 := way_T (by kernel_rfl) k3_170
theorem k3_172 : runE (fun K => @code K) (fun K => @nats K) 128 4 rest3 tabs p3_172 t3_172 = true := by kernel_rfl
theorem r3_172 : RT3 t3_172 p3_172 := way_T (by kernel_rfl) k3_172
theorem k3_180 : runE (fun K => @code K) (fun K => @nats K) 128 4 rest3 tabs p3_180 t3_180 = true := by kernel_rfl
theorem r3_180 : RT3 t3_180 p3_180 := way_T (by kernel_rfl) k3_180
theorem k3_182 : runE (fun K => @code K) (fun K => @nats K) 128 4 rest3 tabs p3_182 t3_182 = true := by kernel_rfl
theorem r3_182 : RT3 t3_182 p3_182 := way_T (by kernel_rfl) k3_182
theorem k3_198 : runE (fun K => @code K) (fun K => @nats K) 128 4 rest3 tabs p3_198 t3_198 = true := by kernel_rfl
theorem r3_198 : RT3 t3_198 p3_198 := way_T (by kernel_rfl) k3_198
theorem k3_206 : runE (fun K => @code K) (fun K => @nats K) 128 4 rest3 tabs p3_206 t3_206 = true := by kernel_rfl
theorem r3_206 : RT3 t3_206 p3_206 := way_T (by kernel_rfl) k3_206
theorem k3_207 : runE (fun K => @code K) (fun K => @nats K) 128 4 rest3 tabs p3_207 t3_207 = true := by kernel_rfl
theorem r3_207 : RT3 t3_207 p3_207 := way_T (by kernel_rfl) k3_207
theorem k3_208 : runE (fun K => @code K) (fun K => @nats K) 128 4 rest3 tabs p3_208 t3_208 = true := by kernel_rfl
theorem r3_208 : RT3 t3_208 p3_208 := way_T (by kernel_rfl) k3_208
theorem k3_214 : runE (fun K => @code K) (fun K => @nats K) 128 4 rest3 tabs p3_214 t3_214 = true := by kernel_rfl
theorem r3_214 : RT3 t3_214 p3_214 := way_T (by kernel_rfl) k3_214
theorem k3_216 : runE (fun K => @code K) (fun K => @nats K) 128 4 rest3 tabs p3_216 t3_216 = true := by kernel_rfl
theorem r3_216 : RT3 t3_216 p3_216 := way_T (by kernel_rfl) k3_216
theorem k3_232 : runE (fun K => @code K) (fun K => @nats K) 128 4 rest3 tabs p3_232 t3_232 = true := by kernel_rfl
theorem r3_232 : RT3 t3_232 p3_232 := way_T (by kernel_rfl) k3_232
theorem k3_240 : runE (fun K => @code K) (fun K => @nats K) 128 4 rest3 tabs p3_240 t3_240 = true := by kernel_rfl
theorem r3_240 : RT3 t3_240 p3_240 := way_T (by kernel_rfl) k3_240
theorem k3_241 : runE (fun K => @code K) (fun K => @nats K) 128 4 rest3 tabs p3_241 t3_241 = true := by kernel_rfl
theorem r3_241 : RT3 t3_241 p3_241 := way_T (by kernel_rfl) k3_241
theorem k3_242 : runE (fun K => @code K) (fun K => @nats K) 128 4 rest3 tabs p3_242 t3_242 = true := by kernel_rfl
theorem r3_242 : RT3 t3_242 p3_242 := way_T (by kernel_rfl) k3_242
theorem k3_244 : runE (fun K => @code K) (fun K => @nats K) 128 4 rest3 tabs p3_244 t3_244 = true := by kernel_rfl
theorem r3_244 : RT3 t3_244 p3_244 := way_T (by kernel_rfl) k3_244
theorem k3_245 : runE (fun K => @code K) (fun K => @nats K) 128 4 rest3 tabs p3_245 t3_245 = true := by kernel_rfl
theorem r3_245 : RT3 t3_245 p3_245 := way_T (by kernel_rfl) k3_245
theorem k3_246 : runE (fun K => @code K) (fun K => @nats K) 128 4 rest3 tabs p3_246 t3_246 = true := by kernel_rfl
theorem r3_246 : RT3 t3_246 p3_246 := way_T (by kernel_rfl) k3_246
end Go.Proofs.YtcghikpogkigcaaGreatDoor.R
