/- Runs by ways. -/
import Derived.Test.YtcghikpogkigcaaGreatDoorAbDL
set_option linter.all false
set_option linter.unusedSectionVars false
set_option linter.unusedVariables false
set_option linter.unusedSimpArgs false
namespace Go.Proofs.YtcghikpogkigcaaGreatDoor.R
open Go Go.Ab Go.Proofs Go.RowKit
set_option maxRecDepth 1000000

theorem k0_119 : runE (fun K => @code K) (fun K => @nats K) 64 4 rest0 tabs p0_119 t0_119 = true := by kernel_rfl
theorem r0_119 : RT0 t0_119 p0_119 := way_T (by kernel_rfl) k0_119
theorem k2_162 : runE (fun K => @code K) (fun K => @nats K) 128 4 rest2 tabs p2_162 t2_162 = true := by kernel_rfl
theorem r2_162 : RT2 t2_162 p2_162 := way_T (by kernel_rfl) k2_162
theorem k2_164 : runE (fun K => @code K) (fun K => @nats K) 128 4 rest2 tabs p2_164 t2_164 = true := by kernel_rfl
theorem r2_164 : RT2 t2_164 p2_164 := way_T (by kernel_rfl) k2_164
theorem k2_250 : runE (fun K => @code K) (fun K => @nats K) 128 4 rest2 tabs p2_250 t2_250 = true := by kernel_rfl
theorem r2_250 : RT2 t2_250 p2_250 := way_T (by kernel_rfl) k2_250
theorem k2_258 : runE (fun K => @code K) (fun K => @nats K) 128 4 rest2 tabs p2_258 t2_258 = true := by kernel_rfl
theorem r2_258 : RT2 t2_258 p2_258 := way_T (by kernel_rfl) k2_258
theorem k2_259 : runE (fun K => @code K) (fun K => @nats K) 128 4 rest2 tabs p2_259 t2_259 = true := by kernel_rfl
theorem r2_259 : RT2 t2_259 p2_259 := way_T (by kernel_rfl) k2_259
theorem k2_260 : runE (fun K => @code K) (fun K => @nats K) 128 4 rest2 tabs p2_260 t2_260 = true := by kernel_rfl
theorem r2_260 : RT2 t2_260 p2_260 := way_T (by kernel_rfl) k2_260
theorem k2_280 : runE (fun K => @code K) (fun K => @nats K) 128 4 rest2 tabs p2_280 t2_280 = true := by kernel_rfl
theorem r2_280 : RT2 t2_280 p2_280 := way_T (by kernel_rfl) k2_280
theorem k2_282 : runE (fun K => @code K) (fun K => @nats K) 128 4 rest2 tabs p2_282 t2_282 = true := by kernel_rfl
theorem r2_282 : RT2 t2_282 p2_282 := way_T (by kernel_rfl) k2_282
theorem k2_286 : runE (fun K => @code K) (fun K => @nats K) 128 4 rest2 tabs p2_286 t2_286 = true := by kernel_rfl
theorem r2_286 : RT2 t2_286 p2_286 := way_T (by kernel_rfl) k2_286
theorem k2_290 : runE (fun K => @code K) (fun K => @nats K) 128 4 rest2 tabs p2_290 t2_290 = true := by kernel_rfl
theorem r2_290 : RT2 t2_290 p2_290 := way_T (by kernel_rfl) k2_290
theorem k2_291 : runE (fun K => @code K) (fun K => @nats K) 128 4 rest2 tabs p2_291 t2_291 = true := by kernel_rfl
theorem r2_291 : RT2 t2_291 p2_291 := way_T (by kernel_rfl) k2_291
theorem k2_292 : runE (fun K => @code K) (fun K => @nats K) 128 4 rest2 tabs p2_292 t2_292 = true := by kernel_rfl
theorem r2_292 : RT2 t2_292 p2_292 := way_T (by kernel_rfl) k2_292
theorem k2_298 : runE (fun K => @code K) (fun K => @nats K) 128 4 rest2 tabs p2_298 t2_298 = true := by kernel_rfl
theorem r2_298 : RT2 t2_298 p2_298 := way_T (by kernel_rfl) k2_298
theorem k2_300 : runE (fun K => @code K) (fun K => @nats K) 128 4 rest2 tabs p2_300 t2_300 = true := by kernel_rfl
theorem r2_300 : RT2 t2_300 p2_300 := way_T (by kernel_rfl) k2_300
theorem k2_304 : runE (fun K => @code K) (fun K => @nats K) 128 4 rest2 tabs p2_304 t2_304 = true := by kernel_rfl
theorem r2_304 : RT2 t2_304 p2_304 := way_T (by kernel_rfl) k2_304
theorem k2_308 : runE (fun K => @code K) (fun K => @nats K) 128 4 rest2 tabs p2_308 t2_308 = true := by kernel_rfl
theorem r2_308 : RT2 t2_308 p2_308 := way_T (by kernel_rfl) k2_308
theorem k2_309 : runE (fun K => @code K) (fun K => @nats K) 128 4 rest2 tabs p2_309 t2_309 = true := by kernel_rfl
theorem r2_309 : RT2 t2_309 p2_309 := way_T (by kernel_rfl) k2_309
theorem k2_310 : runE (fun K => @code K) (fun K => @nats K) 128 4 rest2 tabs p2_310 t2_310 = true := by kernel_rfl
theorem r2_310 : RT2 t2_310 p2_310 := way_T (by kernel_rfl) k2_310
theorem k2_320 : runE (fun K => @code K) (fun K => @nats K) 128 4 rest2 tabs p2_320 t2_320 = true := by kernel_rfl
theorem r2_320 : RT2 t2_320 p2_320 := way_T (by kernel_rfl) k2_320
theorem k2_322 : runE (fun K => @code K) (fun K => @nats K) 128 4 rest2 tabs p2_322 t2_322 = true := by kernel_rfl
theorem r2_322 : RT2 t2_322 p2_322 := way_T (by kernel_rfl) k2_322
theorem k2_408 : runE (fun K => @code K) (fun K => @nats K) 128 4 rest2 tabs p2_408 t2_408 = true := by kernel_rfl
theorem r2_408 : RT2 t2_408 p2_408 := way_T (by kernel_rfl) k2_408
theorem k2_416 : runE (fun K => @code K) (fun K => @nats K) 128 4 rest2 tabs p2_416 t2_416 = true := by kernel_rfl
theorem r2_416 : RT2 t2_416 p2_416 := way_T (by kernel_rfl) k2_416
theorem k2_417 : runE (fun K => @code K) (fun K => @nats K) 128 4 rest2 tabs p2_417 t2_417 = true := by kernel_rfl
theorem r2_417 : RT2 t2_417 p2_417 := way_T (by kernel_rfl) k2_417
theorem k2_418 : runE (fun K => @code K) (fun K => @nats K) 128 4 rest2 tabs p2_418 t2_418 = true := by kernel_rfl
theorem r2_418 : RT2 t2_418 p2_418 := way_T (by kernel_rfl) k2_418
theorem k2_424 : runE (fun K => @code K) (fun K => @nats K) 128 4 rest2 tabs p2_424 t2_424 = true := by kernel_rfl
theorem r2_424 : RT2 t2_424 p2_424 := way_T (by kernel_rfl) k2_424
theorem k2_426 : runE (fun K => @code K) (fun K => @nats K) 128 4 rest2 tabs p2_426 t2_426 = true := by kernel_rfl
theorem r2_426 : RT2 t2_426 p2_426 := way_T (by kernel_rfl) k2_426
theorem k2_512 : runE (fun K => @code K) (fun K => @nats K) 128 4 rest2 tabs p2_512 t2_512 = true := by kernel_rfl
theorem r2_512 : RT2 t2_512 p2_512 := way_T (by kernel_rfl) k2_512
theorem k2_520 : runE (fun K => @code K) (fun K => @nats K) 128 4 rest2 tabs p2_520 t2_520 = true := by kernel_rfl
theorem r2_520 : RT2 t2_520 p2_520 := way_T (by kernel_rfl) k2_520
theorem k2_521 : runE (fun K => @code K) (fun K => @nats K) 128 4 rest2 tabs p2_521 t2_521 = true := by kernel_rfl
theorem r2_521 : RT2 t2_521 p2_521 := way_T (by kernel_rfl) k2_521
theorem k2_522 : runE (fun K => @code K) (fun K => @nats K) 128 4 rest2 tabs p2_522 t2_522 = true := by kernel_rfl
theorem r2_522 : RT2 t2_522 p2_522 := way_T (by kernel_rfl) k2_522
theorem k3_18 : runE (fun K => @code K) (fun K => @nats K) 128 4 rest3 tabs p3_18 t3_18 = true := by kernel_rfl
theorem r3_18 : RT3 t3_18 p3_18 := way_T (by kernel_rfl) k3_18
theorem k3_20 : runE (fun K => @code K) (fun K => @nats K) 128 4 rest3 tabs p3_20 t3_20 = true := by kernel_rfl
theorem r3_20 : RT3 t3_20 p3_20 := way_T (by kernel_rfl) k3_20
theorem k3_24 : runE (fun K => @code K) (fun K => @nats K) 128 4 rest3 tabs p3_24 t3_24 = true := by kernel_rfl
theorem r3_24 : RT3 t3_24 p3_24 := way_T (by kernel_rfl) k3_24
theorem k3_28 : runE (fun K => @code K) (fun K => @nats K) 128 4 rest3 tabs p3_28 t3_28 = true := by kernel_rfl
theorem r3_28 : RT3 t3_28 p3_28 := way_T (by kernel_rfl) k3_28
theorem k3_29 : runE (fun K => @code K) (fun K => @nats K) 128 4 rest3 tabs p3_29 t3_29 = true := by kernel_rfl
theorem r3_29 : RT3 t3_29 p3_29 := way_T (by kernel_rfl) k3_29
theorem k3_30 : runE (fun K => @code K) (fun K => @nats K) 128 4 rest3 tabs p3_30 t3_30 = true := by kernel_rfl
theorem r3_30 : RT3 t3_30 p3_30 := way_T (by kernel_rfl) k3_30
theorem k3_36 : runE (fun K => @code K) (fun K => @nats K) 128 4 rest3 tabs p3_36 t3_36 = true := by kernel_rfl
theorem r3_36 : RT3 t3_36 p3_36 := way_T (by kernel_rfl) k3_36
theorem k3_38 : runE (fun K => @code K) (fun K => @nats K) 128 4 rest3 tabs p3_38 t3_38 = true := by kernel_rfl
theorem r3_38 : RT3 t3_38 p3_38 := way_T (by kernel_rfl) k3_38
theorem k3_42 : runE (fun K => @code K) (fun K => @nats K) 128 4 rest3 tabs p3_42 t3_42 = true := by kernel_rfl
theorem r3_42 : RT3 t3_42 p3_42 := way_T (by kernel_rfl) k3_42
theorem k3_46 : runE (fun K => @code K) (fun K => @nats K) 128 4 rest3 tabs p3_46 t3_46 = true := by kernel_rfl
theorem r3_46 : RT3 t3_46 p3_46 := way_T (by kernel_rfl) k3_46
theorem k3_47 : runE (fun K => @code K) (fun K => @nats K) 128 4 rest3 tabs p3_47 t3_47 = true := by kernel_rfl
theorem r3_47 : RT3 t3_47 p3_47 := way_T (by kernel_rfl) k3_47
theorem k3_48 : runE (fun K => @code K) (fun K => @nats K) 128 4 rest3 tabs p3_48 t3_48 = true := by kernel_rfl
theorem r3_48 : RT3 t3_48 p3_48 := way_T (by kernel_rfl) k3_48
theorem k3_58 : runE (fun K => @code K) (fun K => @nats K) 128 4 rest3 tabs p3_58 t3_58 = true := by kernel_rfl
theorem r3_58 : RT3 t3_58 p3_58 := way_T (by kernel_rfl) k3_58
theorem k3_60 : runE (fun K => @code K) (fun K => @nats K) 128 4 rest3 tabs p3_60 t3_60 = true := by kernel_rfl
theorem r3_60 : RT3 t3_60 p3_60 := way_T (by kernel_rfl) k3_60
theorem k3_76 : runE (fun K => @code K) (fun K => @nats K) 128 4 rest3 tabs p3_76 t3_76 = true := by kernel_rfl
theorem r3_76 : RT3 t3_76 p3_76 := way_T (by kernel_rfl) k3_76
theorem k3_84 : runE (fun K => @code K) (fun K => @nats K) 128 4 rest3 tabs p3_84 t3_84 = true := by kernel_rfl
theorem r3_84 : RT3 t3_84 p3_84 := way_T (by kernel_rfl) k3_84
theorem k3_85 : runE (fun K => @code K) (fun K => @nats K) 128 4 rest3 tabs p3_85 t3_85 = true := by kernel_rfl
theorem r3_85 : RT3 t3_85 p3_85 := way_T (by kernel_rfl) k3_85
theorem k3_86 : runE (fun K => @code K) (fun K => @nats K) 128 4 rest3 tabs p3_86 t3_86 = true := by kernel_rfl
theorem r3_86 : RT3 t3_86 p3_86 := way_T (by kernel_rfl) k3_86
theorem k3_92 : runE (fun K => @code K) (fun K => @nats K) 128 4 rest3 tabs p3_92 t3_92 = true := by kernel_rfl
theorem r3_92 : RT3 t3_92 p3_92 := way_T (by kernel_rfl) k3_92
theorem k3_94 : runE (fun K => @code K) (fun K => @nats K) 128 4 rest3 tabs p3_94 t3_94 = true := by kernel_rfl
theorem r3_94 : RT3 t3_94 p3_94 := way_T (by kernel_rfl) k3_94
theorem k3_110 : runE (fun K => @code K) (fun K => @nats K) 128 4 rest3 tabs p3_110 t3_110 = true := by kernel_rfl
theorem r3_110 : RT3 t3_110 p3_110 := way_T (by kernel_rfl) k3_110
theorem k3_118 : runE (fun K => @code K) (fun K => @nats K) 128 4 rest3 tabs p3_118 t3_118 = true := by kernel_rfl
theorem r3_118 : RT3 t3_118 p3_118 := way_T (by kernel_rfl) k3_118
theorem k3_119 : runE (fun K => @code K) (fun K => @nats K) 128 4 rest3 tabs p3_119 t3_119 = true := by kernel_rfl
theorem r3_119 : RT3 t3_119 p3_119 := way_T (by kernel_rfl) k3_119
theorem k3_120 : runE (fun K => @code K) (fun K => @nats K) 128 4 rest3 tabs p3_120 t3_120 = true := by kernel_rfl
theorem r3_120 : RT3 t3_120 p3_120 := way_T (by kernel_rfl) k3_120
theorem k3_140 : runE (fun K => @code K) (fun K => @nats K) 128 4 rest3 tabs p3_140 t3_140 = true := by kernel_rfl
theorem r3_140 : RT3 t3_140 p3_140 := way_T (by kernel_rfl) k3_140
theorem k3_142 : runE (fun K => @code K) (fun K => @nats K) 128 4 rest3 tabs p3_142 t3_142 = true := by kernel_rfl
theorem r3_142 : RT3 t3_142 p3_142 := way_T (by kernel_rfl) k3_142
theorem k3_146 : runE (fun K => @code K) (fun K => @nats K) 128 4 rest3 tabs p3_146 t3_146 = true := by kernel_rfl
theorem r3_146 : RT3 t3_146 p3_146 := way_T (by kernel_rfl) k3_146
theorem k3_150 : runE (fun K => @code K) (fun K => @nats K) 128 4 rest3 tabs p3_150 t3_150 = true := by kernel_rfl
theorem r3_150 : RT3 t3_150 p3_150 := way_T (by kernel_rfl) k3_150
theorem k3_151 : runE (fun K => @code K) (fun K => @nats K) 128 4 rest3 tabs p3_151 t3_151 = true := by kernel_rfl
theorem r3_151 : RT3 t3_151 p3_151 := way_T (by kernel_rfl) k3_151
theorem k3_152 : runE (fun K => @code K) (fun K => @nats K) 128 4 rest3 tabs p3_152 t3_152 = true := by kernel_rfl
theorem r3_152 : RT3 t3_152 p3_152 := way_T (by kernel_rfl) k3_152
theorem k3_160 : runE (fun K => @code K) (fun K => @nats K) 128 4 rest3 tabs p3_160 t3_160 = true := by kernel_rfl
theorem r3_160 : RT3 t3_160 p3_160 := way_T (by kernel_rfl) k3_160
end Go.Proofs.YtcghikpogkigcaaGreatDoor.R
