/- Runs by ways. -/
import Derived.Test.YtcghikpogkigcaaGreatDoorAbDL
set_option linter.all false
set_option linter.unusedSectionVars false
set_option linter.unusedVariables false
set_option linter.unusedSimpArgs false
namespace Go.Proofs.YtcghikpogkigcaaGreatDoor.R
open Go Go.Ab Go.Proofs Go.RowKit
set_option maxRecDepth 1000000

theorem k0_38 : runE (fun K => @code K) (fun K => @nats K) 64 4 rest0 tabs p0_38 t0_38 = true := by kernel_rfl
theorem r0_38 : RT0 t0_38 p0_38 := way_T (by kernel_rfl) k0_38
theorem k0_40 : runE (fun K => @code K) (fun K => @nats K) 64 4 rest0 tabs p0_40 t0_40 = true := by kernel_rfl
theorem r0_40 : RT0 t0_40 p0_40 := way_T (by kernel_rfl) k0_40
theorem k0_42 : runE (fun K => @code K) (fun K => @nats K) 64 4 rest0 tabs p0_42 t0_42 = true := by kernel_rfl
theorem r0_42 : RT0 t0_42 p0_42 := way_T (by kernel_rfl) k0_42
theorem k0_44 : runE (fun K => @code K) (fun K => @nats K) 64 4 rest0 tabs p0_44 t0_44 = true := by kernel_rfl
theorem r0_44 : RT0 t0_44 p0_44 := way_T (by kernel_rfl) k0_44
theorem k0_46 : runE (fun K => @code K) (fun K => @nats K) 64 4 rest0 tabs p0_46 t0_46 = true := by kernel_rfl
theorem r0_46 : RT0 t0_46 p0_46 := way_T (by kernel_rfl) k0_46
theorem k0_48 : runE (fun K => @code K) (fun K => @nats K) 64 4 rest0 tabs p0_48 t0_48 = true := by kernel_rfl
theorem r0_48 : RT0 t0_48 p0_48 := way_T (by kernel_rfl) k0_48
theorem k0_161 : runE (fun K => @code K) (fun K => @nats K) 64 4 rest0 tabs p0_161 t0_161 = true := by kernel_rfl
theorem r0_161 : RT0 t0_161 p0_161 := way_T (by kernel_rfl) k0_161
theorem k0_166 : runE (fun K => @code K) (fun K => @nats K) 64 4 rest0 tabs p0_166 t0_166 = true := by kernel_rfl
theorem r0_166 : RT0 t0_166 p0_166 := way_T (by kernel_rfl) k0_166
theorem k0_168 : runE (fun K => @code K) (fun K => @nats K) 64 4 rest0 tabs p0_168 t0_168 = true := by kernel_rfl
theorem r0_168 : RT0 t0_168 p0_168 := way_T (by kernel_rfl) k0_168
theorem k0_170 : runE (fun K => @code K) (fun K => @nats K) 64 4 rest0 tabs p0_170 t0_170 = true := by kernel_rfl
theorem r0_170 : RT0 t0_170 p0_170 := way_T (by kernel_rfl) k0_170
theorem k0_172 : runE (fun K => @code K) (fun K => @nats K) 64 4 rest0 tabs p0_172 t0_172 = true := by kernel_rfl
theorem r0_172 : RT0 t0_172 p0_172 := way_T (by kernel_rfl) k0_172
theorem k0_174 : runE (fun K => @code K) (fun K => @nats K) 64 4 rest0 tabs p0_174 t0_174 = true := by kernel_rfl
theorem r0_174 : RT0 t0_174 p0_174 := way_T (by kernel_rfl) k0_174
theorem k0_180 : runE (fun K => @code K) (fun K => @nats K) 64 4 rest0 tabs p0_180 t0_180 = true := by kernel_rfl
theorem r0_180 : RT0 t0_180 p0_180 := way_T (by kernel_rfl) k0_180
theorem k0_182 : runE (fun K => @code K) (fun K => @nats K) 64 4 rest0 tabs p0_182 t0_182 = true := by kernel_rfl
theorem r0_182 : RT0 t0_182 p0_182 := way_T (by kernel_rfl) k0_182
theorem k0_184 : runE (fun K => @code K) (fun K => @nats K) 64 4 rest0 tabs p0_184 t0_184 = true := by kernel_rfl
theorem r0_184 : RT0 t0_184 p0_184 := way_T (by kernel_rfl) k0_184
theorem k0_186 : runE (fun K => @code K) (fun K => @nats K) 64 4 rest0 tabs p0_186 t0_186 = true := by kernel_rfl
theorem r0_186 : RT0 t0_186 p0_186 := way_T (by kernel_rfl) k0_186
theorem k0_188 : runE (fun K => @code K) (fun K => @nats K) 64 4 rest0 tabs p0_188 t0_188 = true := by kernel_rfl
theorem r0_188 : RT0 t0_188 p0_188 := way_T (by kernel_rfl) k0_188
theorem k0_192 : runE (fun K => @code K) (fun K => @nats K) 64 4 rest0 tabs p0_192 t0_192 = true := by kernel_rfl
theorem r0_192 : RT0 t0_192 p0_192 := way_T (by kernel_rfl) k0_192
theorem k0_194 : runE (fun K => @code K) (fun K => @nats K) 64 4 rest0 tabs p0_194 t0_194 = true := by kernel_rfl
theorem r0_194 : RT0 t0_194 p0_194 := way_T (by kernel_rfl) k0_194
theorem k0_196 : runE (fun K => @code K) (fun K => @nats K) 64 4 rest0 tabs p0_196 t0_196 = true := by kernel_rfl
theorem r0_196 : RT0 t0_196 p0_196 := way_T (by kernel_rfl) k0_196
theorem k0_198 : runE (fun K => @code K) (fun K => @nats K) 64 4 rest0 tabs p0_198 t0_198 = true := by kernel_rfl
theorem r0_198 : RT0 t0_198 p0_198 := way_T (by kernel_rfl) k0_198
theorem k0_204 : runE (fun K => @code K) (fun K => @nats K) 64 4 rest0 tabs p0_204 t0_204 = true := by kernel_rfl
theorem r0_204 : RT0 t0_204 p0_204 := way_T (by kernel_rfl) k0_204
theorem k0_206 : runE (fun K => @code K) (fun K => @nats K) 64 4 rest0 tabs p0_206 t0_206 = true := by kernel_rfl
theorem r0_206 : RT0 t0_206 p0_206 := way_T (by kernel_rfl) k0_206
theorem k0_208 : runE (fun K => @code K) (fun K => @nats K) 64 4 rest0 tabs p0_208 t0_208 = true := by kernel_rfl
theorem r0_208 : RT0 t0_208 p0_208 := way_T (by kernel_rfl) k0_208
theorem k0_210 : runE (fun K => @code K) (fun K => @nats K) 64 4 rest0 tabs p0_210 t0_210 = true := by kernel_rfl
theorem r0_210 : RT0 t0_210 p0_210 := way_T (by kernel_rfl) k0_210
theorem k0_214 : runE (fun K => @code K) (fun K => @nats K) 64 4 rest0 tabs p0_214 t0_214 = true := by kernel_rfl
theorem r0_214 : RT0 t0_214 p0_214 := way_T (by kernel_rfl) k0_214
theorem k0_216 : runE (fun K => @code K) (fun K => @nats K) 64 4 rest0 tabs p0_216 t0_216 = true := by kernel_rfl
theorem r0_216 : RT0 t0_216 p0_216 := way_T (by kernel_rfl) k0_216
theorem k0_218 : runE (fun K => @code K) (fun K => @nats K) 64 4 rest0 tabs p0_218 t0_218 = true := by kernel_rfl
theorem r0_218 : RT0 t0_218 p0_218 := way_T (by kernel_rfl) k0_218
theorem k0_220 : runE (fun K => @code K) (fun K => @nats K) 64 4 rest0 tabs p0_220 t0_220 = true := by kernel_rfl
theorem r0_220 : RT0 t0_220 p0_220 := way_T (by kernel_rfl) k0_220
theorem k0_222 : runE (fun K => @code K) (fun K => @nats K) 64 4 rest0 tabs p0_222 t0_222 = true := by kernel_rfl
theorem r0_222 : RT0 t0_222 p0_222 := way_T (by kernel_rfl) k0_222
theorem k0_286 : runE (fun K => @code K) (fun K => @nats K) 64 4 rest0 tabs p0_286 t0_286 = true := by kernel_rfl
theorem r0_286 : RT0 t0_286 p0_286 := way_T (by kernel_rfl) k0_286
theorem k0_288 : runE (fun K => @code K) (fun K => @nats K) 64 4 rest0 tabs p0_288 t0_288 = true := by kernel_rfl
theorem r0_288 : RT0 t0_288 p0_288 := way_T (by kernel_rfl) k0_288
theorem k0_290 : runE (fun K => @code K) (fun K => @nats K) 64 4 rest0 tabs p0_290 t0_290 = true := by kernel_rfl
theorem r0_290 : RT0 t0_290 p0_290 := way_T (by kernel_rfl) k0_290
theorem k0_292 : runE (fun K => @code K) (fun K => @nats K) 64 4 rest0 tabs p0_292 t0_292 = true := by kernel_rfl
theorem r0_292 : RT0 t0_292 p0_292 := way_T (by kernel_rfl) k0_292
theorem k0_294 : runE (fun K => @code K) (fun K => @nats K) 64 4 rest0 tabs p0_294 t0_294 = true := by kernel_rfl
theorem r0_294 : RT0 t0_294 p0_294 := way_T (by kernel_rfl) k0_294
theorem k0_296 : runE (fun K => @code K) (fun K => @nats K) 64 4 rest0 tabs p0_296 t0_296 = true := by kernel_rfl
theorem r0_296 : RT0 t0_296 p0_296 := way_T (by kernel_rfl) k0_296
theorem k0_414 : runE (fun K => @code K) (fun K => @nats K) 64 4 rest0 tabs p0_414 t0_414 = true := by kernel_rfl
theorem r0_414 : RT0 t0_414 p0_414 := way_T (by kernel_rfl) k0_414
theorem k0_416 : runE (fun K => @code K) (fun K => @nats K) 64 4 rest0 tabs p0_416 t0_416 = true := by kernel_rfl
theorem r0_416 : RT0 t0_416 p0_416 := way_T (by kernel_rfl) k0_416
theorem k0_418 : runE (fun K => @code K) (fun K => @nats K) 64 4 rest0 tabs p0_418 t0_418 = true := by kernel_rfl
theorem r0_418 : RT0 t0_418 p0_418 := way_T (by kernel_rfl) k0_418
theorem k0_420 : runE (fun K => @code K) (fun K => @nats K) 64 4 rest0 tabs p0_420 t0_420 = true := by kernel_rfl
theorem r0_420 : RT0 t0_420 p0_420 := way_T (by kernel_rfl) k0_420
theorem k0_422 : runE (fun K => @code K) (fun K => @nats K) 64 4 rest0 tabs p0_422 t0_422 = true := by kernel_rfl
theorem r0_422 : RT0 t0_422 p0_422 := way_T (by kernel_rfl) k0_422
theorem k0_428 : runE (fun K => @code K) (fun K => @nats K) 64 4 rest0 tabs p0_428 t0_428 = true := by kernel_rfl
theorem r0_428 : RT0 t0_428 p0_428 := way_T (by kernel_rfl) k0_428
theorem k0_430 : runE (fun K => @code K) (fun K => @nats K) 64 4 rest0 tabs p0_430 t0_430 = true := by kernel_rfl
theorem r0_430 : RT0 t0_430 p0_430 := way_T (by kernel_rfl) k0_430
theorem k0_432 : runE (fun K => @code K) (fun K => @nats K) 64 4 rest0 tabs p0_432 t0_432 = true := by kernel_rfl
theorem r0_432 : RT0 t0_432 p0_432 := way_T (by kernel_rfl) k0_432
theorem k0_434 : runE (fun K => @code K) (fun K => @nats K) 64 4 rest0 tabs p0_434 t0_434 = true := by kernel_rfl
theorem r0_434 : RT0 t0_434 p0_434 := way_T (by kernel_rfl) k0_434
theorem k0_436 : runE (fun K => @code K) (fun K => @nats K) 64 4 rest0 tabs p0_436 t0_436 = true := by kernel_rfl
theorem r0_436 : RT0 t0_436 p0_436 := way_T (by kernel_rfl) k0_436
theorem k0_440 : runE (fun K => @code K) (fun K => @nats K) 64 4 rest0 tabs p0_440 t0_440 = true := by kernel_rfl
theorem r0_440 : RT0 t0_440 p0_440 := way_T (by kernel_rfl) k0_440
theorem k0_442 : runE (fun K => @code K) (fun K => @nats K) 64 4 rest0 tabs p0_442 t0_442 = true := by kernel_rfl
theorem r0_442 : RT0 t0_442 p0_442 := way_T (by kernel_rfl) k0_442
theorem k0_444 : runE (fun K => @code K) (fun K => @nats K) 64 4 rest0 tabs p0_444 t0_444 = true := by kernel_rfl
theorem r0_444 : RT0 t0_444 p0_444 := way_T (by kernel_rfl) k0_444
theorem k0_446 : runE (fun K => @code K) (fun K => @nats K) 64 4 rest0 tabs p0_446 t0_446 = true := by kernel_rfl
theorem r0_446 : RT0 t0_446 p0_446 := way_T (by kernel_rfl) k0_446
theorem k0_452 : runE (fun K => @code K) (fun K => @nats K) 64 4 rest0 tabs p0_452 t0_452 = true := by kernel_rfl
theorem r0_452 : RT0 t0_452 p0_452 := way_T (by kernel_rfl) k0_452
theorem k0_454 : runE (fun K => @code K) (fun K => @nats K) 64 4 rest0 tabs p0_454 t0_454 = true := by kernel_rfl
theorem r0_454 : RT0 t0_454 p0_454 := way_T (by kernel_rfl) k0_454
theorem k0_456 : runE (fun K => @code K) (fun K => @nats K) 64 4 rest0 tabs p0_456 t0_456 = true := by kernel_rfl
theorem r0_456 : RT0 t0_456 p0_456 := way_T (by kernel_rfl) k0_456
theorem k0_458 : runE (fun K => @code K) (fun K => @nats K) 64 4 rest0 tabs p0_458 t0_458 = true := by kernel_rfl
theorem r0_458 : RT0 t0_458 p0_458 := way_T (by kernel_rfl) k0_458
theorem k0_462 : runE (fun K => @code K) (fun K => @nats K) 64 4 rest0 tabs p0_462 t0_462 = true := by kernel_rfl
theorem r0_462 : RT0 t0_462 p0_462 := way_T (by kernel_rfl) k0_462
theorem k0_464 : runE (fun K => @code K) (fun K => @nats K) 64 4 rest0 tabs p0_464 t0_464 = true := by kernel_rfl
theorem r0_464 : RT0 t0_464 p0_464 := way_T (by kernel_rfl) k0_464
theorem k0_466 : runE (fun K => @code K) (fun K => @nats K) 64 4 rest0 tabs p0_466 t0_466 = true := by kernel_rfl
theorem r0_466 : RT0 t0_466 p0_466 := way_T (by kernel_rfl) k0_466
theorem k0_468 : runE (fun K => @code K) (fun K => @nats K) 64 4 rest0 tabs p0_468 t0_468 = true := by kernel_rfl
theorem r0_468 : RT0 t0_468 p0_468 := way_T (by kernel_rfl) k0_468
theorem k0_470 : runE (fun K => @code K) (fun K => @nats K) 64 4 rest0 tabs p0_470 t0_470 = true := by kernel_rfl
theorem r0_470 : RT0 t0_470 p0_470 := way_T (by kernel_rfl) k0_470
theorem k1_24 : runE (fun K => @code K) (fun K => @nats K) 64 4 rest1 tabs p1_24 t1_24 = true := by kernel_rfl
theorem r1_24 : RT1 t1_24 p1_24 := way_T (by kernel_rfl) k1_24
theorem k1_26 : runE (fun K => @code K) (fun K => @nats K) 64 4 rest1 tabs p1_26 t1_26 = true := by kernel_rfl
theorem r1_26 : RT1 t1_26 p1_26 := way_T (by kernel_rfl) k1_26
theorem k1_28 : runE (fun K => @code K) (fun K => @nats K) 64 4 rest1 tabs p1_28 t1_28 = true := by kernel_rfl
theorem r1_28 : RT1 t1_28 p1_28 := way_T (by kernel_rfl) k1_28
theorem k1_30 : runE (fun K => @code K) (fun K => @nats K) 64 4 rest1 tabs p1_30 t1_30 = true := by kernel_rfl
theorem r1_30 : RT1 t1_30 p1_30 := way_T (by kernel_rfl) k1_30
theorem k1_31 : runE (fun K => @code K) (fun K => @nats K) 64 4 rest1 tabs p1_31 t1_31 = true := by kernel_rfl
theorem r1_31 : RT1 t1_31 p1_31 := way_T (by kernel_rfl) k1_31
theorem k1_32 : runE (fun K => @code K) (fun K => @nats K) 64 4 rest1 tabs p1_32 t1_32 = true := by kernel_rfl
theorem r1_32 : RT1 t1_32 p1_32 := way_T (by kernel_rfl) k1_32
theorem k1_34 : runE (fun K => @code K) (fun K => @nats K) 64 4 rest1 tabs p1_34 t1_34 = true := by kernel_rfl
theorem r1_34 : RT1 t1_34 p1_34 := way_T (by kernel_rfl) k1_34
theorem k1_36 : runE (fun K => @code K) (fun K => @nats K) 64 4 rest1 tabs p1_36 t1_36 = true := by kernel_rfl
theorem r1_36 : RT1 t1_36 p1_36 := way_T (by kernel_rfl) k1_36
theorem k1_38 : runE (fun K => @code K) (fun K => @nats K) 64 4 rest1 tabs p1_38 t1_38 = true := by kernel_rfl
theorem r1_38 : RT1 t1_38 p1_38 := way_T (by kernel_rfl) k1_38
theorem k1_40 : runE (fun K => @code K) (fun K => @nats K) 64 4 rest1 tabs p1_40 t1_40 = true := by kernel_rfl
theorem r1_40 : RT1 t1_40 p1_40 := way_T (by kernel_rfl) k1_40
theorem k1_41 : runE (fun K => @code K) (fun K => @nats K) 64 4 rest1 tabs p1_41 t1_41 = true := by kernel_rfl
theorem r1_41 : RT1 t1_41 p1_41 := way_T (by kernel_rfl) k1_41
theorem k1_42 : runE (fun K => @code K) (fun K => @nats K) 64 4 rest1 tabs p1_42 t1_42 = true := by kernel_rfl
theorem r1_42 : RT1 t1_42 p1_42 := way_T (by kernel_rfl) k1_42
theorem k1_48 : runE (fun K => @code K) (fun K => @nats K) 64 4 rest1 tabs p1_48 t1_48 = true := by kernel_rfl
theorem r1_48 : RT1 t1_48 p1_48 := way_T (by kernel_rfl) k1_48
theorem k1_50 : runE (fun K => @code K) (fun K => @nats K) 64 4 rest1 tabs p1_50 t1_50 = true := by kernel_rfl
theorem r1_50 : RT1 t1_50 p1_50 := way_T (by kernel_rfl) k1_50
theorem k1_52 : runE (fun K => @code K) (fun K => @nats K) 64 4 rest1 tabs p1_52 t1_52 = true := by kernel_rfl
theorem r1_52 : RT1 t1_52 p1_52 := way_T (by kernel_rfl) k1_52
theorem k1_54 : runE (fun K => @code K) (fun K => @nats K) 64 4 rest1 tabs p1_54 t1_54 = true := by kernel_rfl
theorem r1_54 : RT1 t1_54 p1_54 := way_T (by kernel_rfl) k1_54
theorem k1_55 : runE (fun K => @code K) (fun K => @nats K) 64 4 rest1 tabs p1_55 t1_55 = true := by kernel_rfl
theorem r1_55 : RT1 t1_55 p1_55 := way_T (by kernel_rfl) k1_55
theorem k1_56 : runE (fun K => @code K) (fun K => @nats K) 64 4 rest1 tabs p1_56 t1_56 = true := by kernel_rfl
theorem r1_56 : RT1 t1_56 p1_56 := way_T (by kernel_rfl) k1_56
theorem k1_62 : runE (fun K => @code K) (fun K => @nats K) 64 4 rest1 tabs p1_62 t1_62 = true := by kernel_rfl
theorem r1_62 : RT1 t1_62 p1_62 := way_T (by kernel_rfl) k1_62
theorem k1_64 : runE (fun K => @code K) (fun K => @nats K) 64 4 rest1 tabs p1_64 t1_64 = true := by kernel_rfl
theorem r1_64 : RT1 t1_64 p1_64 := way_T (by kernel_rfl) k1_64
theorem k1_66 : runE (fun K => @code K) (fun K => @nats K) 64 4 rest1 tabs p1_66 t1_66 = true := by kernel_rfl
theorem r1_66 : RT1 t1_66 p1_66 := way_T (by kernel_rfl) k1_66
theorem k1_68 : runE (fun K => @code K) (fun K => @nats K) 64 4 rest1 tabs p1_68 t1_68 = true := by kernel_rfl
theorem r1_68 : RT1 t1_68 p1_68 := way_T (by kernel_rfl) k1_68
theorem k1_70 : runE (fun K => @code K) (fun K => @nats K) 64 4 rest1 tabs p1_70 t1_70 = true := by kernel_rfl
theorem r1_70 : RT1 t1_70 p1_70 := way_T (by kernel_rfl) k1_70
theorem k1_96 : runE (fun K => @code K) (fun K => @nats K) 64 4 rest1 tabs p1_96 t1_96 = true := by kernel_rfl
theorem r1_96 : RT1 t1_96 p1_96 := way_T (by kernel_rfl) k1_96
theorem k1_98 : runE (fun K => @code K) (fun K => @nats K) 64 4 rest1 tabs p1_98 t1_98 = true := by kernel_rfl
theorem r1_98 : RT1 t1_98 p1_98 := way_T (by kernel_rfl) k1_98
theorem k1_100 : runE (fun K => @code K) (fun K => @nats K) 64 4 rest1 tabs p1_100 t1_100 = true := by kernel_rfl
theorem r1_100 : RT1 t1_100 p1_100 := way_T (by kernel_rfl) k1_100
theorem k1_102 : runE (fun K => @code K) (fun K => @nats K) 64 4 rest1 tabs p1_102 t1_102 = true := by kernel_rfl
theorem r1_102 : RT1 t1_102 p1_102 := way_T (by kernel_rfl) k1_102
theorem k1_103 : runE (fun K => @code K) (fun K => @nats K) 64 4 rest1 tabs p1_103 t1_103 = true := by kernel_rfl
theorem r1_103 : RT1 t1_103 p1_103 := way_T (by kernel_rfl) k1_103
theorem k1_104 : runE (fun K => @code K) (fun K => @nats K) 64 4 rest1 tabs p1_104 t1_104 = true := by kernel_rfl
theorem r1_104 : RT1 t1_104 p1_104 := way_T (by kernel_rfl) k1_104
theorem k1_106 : runE (fun K => @code K) (fun K => @nats K) 64 4 rest1 tabs p1_106 t1_106 = true := by kernel_rfl
theorem r1_106 : RT1 t1_106 p1_106 := way_T (by kernel_rfl) k1_106
theorem k1_108 : runE (fun K => @code K) (fun K => @nats K) 64 4 rest1 tabs p1_108 t1_108 = true := by kernel_rfl
theorem r1_108 : RT1 t1_108 p1_108 := way_T (by kernel_rfl) k1_108
theorem k1_110 : runE (fun K => @code K) (fun K => @nats K) 64 4 rest1 tabs p1_110 t1_110 = true := by kernel_rfl
theorem r1_110 : RT1 t1_110 p1_110 := way_T (by kernel_rfl) k1_110
theorem k1_112 : runE (fun K => @code K) (fun K => @nats K) 64 4 rest1 tabs p1_112 t1_112 = true := by kernel_rfl
theorem r1_112 : RT1 t1_112 p1_112 := way_T (by kernel_rfl) k1_112
theorem k1_113 : runE (fun K => @code K) (fun K => @nats K) 64 4 rest1 tabs p1_113 t1_113 = true := by kernel_rfl
theorem r1_113 : RT1 t1_113 p1_113 := way_T (by kernel_rfl) k1_113
theorem k1_114 : runE (fun K => @code K) (fun K => @nats K) 64 4 rest1 tabs p1_114 t1_114 = true := by kernel_rfl
theorem r1_114 : RT1 t1_114 p1_114 := way_T (by kernel_rfl) k1_114
theorem k1_120 : runE (fun K => @code K) (fun K => @nats K) 64 4 rest1 tabs p1_120 t1_120 = true := by kernel_rfl
theorem r1_120 : RT1 t1_120 p1_120 := way_T (by kernel_rfl) k1_120
theorem k1_122 : runE (fun K => @code K) (fun K => @nats K) 64 4 rest1 tabs p1_122 t1_122 = true := by kernel_rfl
theorem r1_122 : RT1 t1_122 p1_122 := way_T (by kernel_rfl) k1_122
theorem k1_124 : runE (fun K => @code K) (fun K => @nats K) 64 4 rest1 tabs p1_124 t1_124 = true := by kernel_rfl
theorem r1_124 : RT1 t1_124 p1_124 := way_T (by kernel_rfl) k1_124
theorem k1_126 : runE (fun K => @code K) (fun K => @nats K) 64 4 rest1 tabs p1_126 t1_126 = true := by kernel_rfl
theorem r1_126 : RT1 t1_126 p1_126 := way_T (by kernel_rfl) k1_126
theorem k1_127 : runE (fun K => @code K) (fun K => @nats K) 64 4 rest1 tabs p1_127 t1_127 = true := by kernel_rfl
theorem r1_127 : RT1 t1_127 p1_127 := way_T (by kernel_rfl) k1_127
theorem k1_128 : runE (fun K => @code K) (fun K => @nats K) 64 4 rest1 tabs p1_128 t1_128 = true := by kernel_rfl
theorem r1_128 : RT1 t1_128 p1_128 := way_T (by kernel_rfl) k1_128
theorem k1_134 : runE (fun K => @code K) (fun K => @nats K) 64 4 rest1 tabs p1_134 t1_134 = true := by kernel_rfl
theorem r1_134 : RT1 t1_134 p1_134 := way_T (by kernel_rfl) k1_134
theorem k1_136 : runE (fun K => @code K) (fun K => @nats K) 64 4 rest1 tabs p1_136 t1_136 = true := by kernel_rfl
theorem r1_136 : RT1 t1_136 p1_136 := way_T (by kernel_rfl) k1_136
theorem k1_138 : runE (fun K => @code K) (fun K => @nats K) 64 4 rest1 tabs p1_138 t1_138 = true := by kernel_rfl
theorem r1_138 : RT1 t1_138 p1_138 := way_T (by kernel_rfl) k1_138
theorem k1_140 : runE (fun K => @code K) (fun K => @nats K) 64 4 rest1 tabs p1_140 t1_140 = true := by kernel_rfl
theorem r1_140 : RT1 t1_140 p1_140 := way_T (by kernel_rfl) k1_140
theorem k1_142 : runE (fun K => @code K) (fun K => @nats K) 64 4 rest1 tabs p1_142 t1_142 = true := by kernel_rfl
theorem r1_142 : RT1 t1_142 p1_142 := way_T (by kernel_rfl) k1_142
theorem k4_10 : runWayL (fun K => @code K) (fun K => @nats K) 4 neg4 rest4 tabs p4_10 v4_10 = true := by kernel_rfl
theorem r4_10 : RT4 t4_10 p4_10 := way_L (by kernel_rfl) k4_10
end Go.Proofs.YtcghikpogkigcaaGreatDoor.R
