/- Runs by ways. -/
import Derived.Test.YtcghikpogkigcaaGreatDoorAbDL
set_option linter.all false
set_option linter.unusedSectionVars false
set_option linter.unusedVariables false
set_option linter.unusedSimpArgs false
namespace Go.Proofs.YtcghikpogkigcaaGreatDoor.R
open Go Go.Ab Go.Proofs Go.RowKit
set_option maxRecDepth 1000000

theorem k2_21 : runE (fun K => @code K) (fun K => @nats K) 128 4 rest2 tabs p2_21 t2_21 = true := by kernel_rfl
theorem r2_21 : RT2 t2_21 p2_21 := way_T (by kernel_rfl) k2_21
theorem k2_22 : runE (fun K => @code K) (fun K => @nats K) 128 4 rest2 tabs p2_22 t2_22 = true := by kernel_rfl
theorem r2_22 : RT2 t2_22 p2_22 := way_T (by kernel_rfl) k2_22
theorem k2_25 : runE (fun K => @code K) (fun K => @nats K) 128 4 rest2 tabs p2_25 t2_25 = true := by kernel_rfl
theorem r2_25 : RT2 t2_25 p2_25 := way_T (by kernel_rfl) k2_25
theorem k2_26 : runE (fun K => @code K) (fun K => @nats K) 128 4 rest2 tabs p2_26 t2_26 = true := by kernel_rfl
theorem r2_26 : RT2 t2_26 p2_26 := way_T (by kernel_rfl) k2_26
theorem k2_39 : runE (fun K => @code K) (fun K => @nats K) 128 4 rest2 tabs p2_39 t2_39 = true := by kernel_rfl
theorem r2_39 : RT2 t2_39 p2_39 := way_T (by kernel_rfl) k2_39
theorem k2_40 : runE (fun K => @code K) (fun K => @nats K) 128 4 rest2 tabs p2_40 t2_40 = true := by kernel_rfl
theorem r2_40 : RT2 t2_40 p2_40 := way_T (by kernel_rfl) k2_40
theorem k2_43 : runE (fun K => @code K) (fun K => @nats K) 128 4 rest2 tabs p2_43 t2_43 = true := by kernel_rfl
theorem r2_43 : RT2 t2_43 p2_43 := way_T (by kernel_rfl) k2_43
theorem k2_44 : runE (fun K => @code K) (fun K => @nats K) 128 4 rest2 tabs p2_44 t2_44 = true := by kernel_rfl
theorem r2_44 : RT2 t2_44 p2_44 := way_T (by kernel_rfl) k2_44
theorem k2_62 : runE (fun K => @code K) (fun K => @nats K) 128 4 rest2 tabs p2_62 t2_62 = true := by kernel_rfl
theorem r2_62 : RT2 t2_62 p2_62 := way_T (by kernel_rfl) k2_62
theorem k2_64 : runE (fun K => @code K) (fun K => @nats K) 128 4 rest2 tabs p2_64 t2_64 = true := by kernel_rfl
theorem r2_64 : RT2 t2_64 p2_64 := way_T (by kernel_rfl) k2_64
theorem k2_66 : runE (fun K => @code K) (fun K => @nats K) 128 4 rest2 tabs p2_66 t2_66 = true := by kernel_rfl
theorem r2_66 : RT2 t2_66 p2_66 := way_T (by kernel_rfl) k2_66
theorem k2_68 : runE (fun K => @code K) (fun K => @nats K) 128 4 rest2 tabs p2_68 t2_68 = true := by kernel_rfl
theorem r2_68 : RT2 t2_68 p2_68 := way_T (by kernel_rfl) k2_68
theorem k2_70 : runE (fun K => @code K) (fun K => @nats K) 128 4 rest2 tabs p2_70 t2_70 = true := by kernel_rfl
theorem r2_70 : RT2 t2_70 p2_70 := way_T (by kernel_rfl) k2_70
theorem k2_72 : runE (fun K => @code K) (fun K => @nats K) 128 4 rest2 tabs p2_72 t2_72 = true := by kernel_rfl
theorem r2_72 : RT2 t2_72 p2_72 := way_T (by kernel_rfl) k2_72
theorem k2_74 : runE (fun K => @code K) (fun K => @nats K) 128 4 rest2 tabs p2_74 t2_74 = true := by kernel_rfl
theorem r2_74 : RT2 t2_74 p2_74 := way_T (by kernel_rfl) k2_74
theorem k2_148 : runE (fun K => @code K) (fun K => @nats K) 128 4 rest2 tabs p2_148 t2_148 = true := by kernel_rfl
theorem r2_148 : RT2 t2_148 p2_148 := way_T (by kernel_rfl) k2_148
theorem k2_150 : runE (fun K => @code K) (fun K => @nats K) 128 4 rest2 tabs p2_150 t2_150 = true := by kernel_rfl
theorem r2_150 : RT2 t2_150 p2_150 := way_T (by kernel_rfl) k2_150
theorem k2_151 : runE (fun K => @code K) (fun K => @nats K) 128 4 rest2 tabs p2_151 t2_151 = true := by kernel_rfl
theorem r2_151 : RT2 t2_151 p2_151 := way_T (by kernel_rfl) k2_151
theorem k2_152 : runE (fun K => @code K) (fun K => @nats K) 128 4 rest2 tabs p2_152 t2_152 = true := by kernel_rfl
theorem r2_152 : RT2 t2_152 p2_152 := way_T (by kernel_rfl) k2_152
theorem k2_166 : runE (fun K => @code K) (fun K => @nats K) 128 4 rest2 tabs p2_166 t2_166 = true := by kernel_rfl
theorem r2_166 : RT2 t2_166 p2_166 := way_T (by kernel_rfl) k2_166
theorem k2_168 : runE (fun K => @code K) (fun K => @nats K) 128 4 rest2 tabs p2_168 t2_168 = true := by kernel_rfl
theorem r2_168 : RT2 t2_168 p2_168 := way_T (by kernel_rfl) k2_168
theorem k2_170 : runE (fun K => @code K) (fun K => @nats K) 128 4 rest2 tabs p2_170 t2_170 = true := by kernel_rfl
theorem r2_170 : RT2 t2_170 p2_170 := way_T (by kernel_rfl) k2_170
theorem k2_172 : runE (fun K => @code K) (fun K => @nats K) 128 4 rest2 tabs p2_172 t2_172 = true := by kernel_rfl
theorem r2_172 : RT2 t2_172 p2_172 := way_T (by kernel_rfl) k2_172
theorem k2_174 : runE (fun K => @code K) (fun K => @nats K) 128 4 rest2 tabs p2_174 t2_174 = true := by kernel_rfl
theorem r2_174 : RT2 t2_174 p2_174 := way_T (by kernel_rfl) k2_174
theorem k2_176 : runE (fun K => @code K) (fun K => @nats K) 128 4 rest2 tabs p2_176 t2_176 = true := by kernel_rfl
theorem r2_176 : RT2 t2_176 p2_176 := way_T (by kernel_rfl) k2_176
theorem k2_178 : runE (fun K => @code K) (fun K => @nats K) 128 4 rest2 tabs p2_178 t2_178 = true := by kernel_rfl
theorem r2_178 : RT2 t2_178 p2_178 := way_T (by kernel_rfl) k2_178
theorem k2_252 : runE (fun K => @code K) (fun K => @nats K) 128 4 rest2 tabs p2_252 t2_252 = true := by kernel_rfl
theorem r2_252 : RT2 t2_252 p2_252 := way_T (by kernel_rfl) k2_252
theorem k2_254 : runE (fun K => @code K) (fun K => @nats K) 128 4 rest2 tabs p2_254 t2_254 = true := by kernel_rfl
theorem r2_254 : RT2 t2_254 p2_254 := way_T (by kernel_rfl) k2_254
theorem k2_255 : runE (fun K => @code K) (fun K => @nats K) 128 4 rest2 tabs p2_255 t2_255 = true := by kernel_rfl
theorem r2_255 : RT2 t2_255 p2_255 := way_T (by kernel_rfl) k2_255
theorem k2_256 : runE (fun K => @code K) (fun K => @nats K) 128 4 rest2 tabs p2_256 t2_256 = true := by kernel_rfl
theorem r2_256 : RT2 t2_256 p2_256 := way_T (by kernel_rfl) k2_256
theorem k2_283 : runE (fun K => @code K) (fun K => @nats K) 128 4 rest2 tabs p2_283 t2_283 = true := by kernel_rfl
theorem r2_283 : RT2 t2_283 p2_283 := way_T (by kernel_rfl) k2_283
theorem k2_284 : runE (fun K => @code K) (fun K => @nats K) 128 4 rest2 tabs p2_284 t2_284 = true := by kernel_rfl
theorem r2_284 : RT2 t2_284 p2_284 := way_T (by kernel_rfl) k2_284
theorem k2_287 : runE (fun K => @code K) (fun K => @nats K) 128 4 rest2 tabs p2_287 t2_287 = true := by kernel_rfl
theorem r2_287 : RT2 t2_287 p2_287 := way_T (by kernel_rfl) k2_287
theorem k2_476 : runE (fun K => @code K) (fun K => @nats K) 128 4 rest2 tabs p2_476 t2_476 = true := by kernel_rfl
theorem r2_476 : RT2 t2_476 p2_476 := way_T (by kernel_rfl) k2_476
theorem k2_484 : runE (fun K => @code K) (fun K => @nats K) 128 4 rest2 tabs p2_484 t2_484 = true := by kernel_rfl
theorem r2_484 : RT2 t2_484 p2_484 := way_T (by kernel_rfl) k2_484
theorem k2_486 : runE (fun K => @code K) (fun K => @nats K) 128 4 rest2 tabs p2_486 t2_486 = true := by kernel_rfl
theorem r2_486 : RT2 t2_486 p2_486 := way_T (by kernel_rfl) k2_486
theorem k2_488 : runE (fun K => @code K) (fun K => @nats K) 128 4 rest2 tabs p2_488 t2_488 = true := by kernel_rfl
theorem r2_488 : RT2 t2_488 p2_488 := way_T (by kernel_rfl) k2_488
theorem k2_490 : runE (fun K => @code K) (fun K => @nats K) 128 4 rest2 tabs p2_490 t2_490 = true := by kernel_rfl
theorem r2_490 : RT2 t2_490 p2_490 := way_T (by kernel_rfl) k2_490
theorem k2_494 : runE (fun K => @code K) (fun K => @nats K) 128 4 rest2 tabs p2_494 t2_494 = true := by kernel_rfl
theorem r2_494 : RT2 t2_494 p2_494 := way_T (by kernel_rfl) k2_494
theorem k2_496 : runE (fun K => @code K) (fun K => @nats K) 128 4 rest2 tabs p2_496 t2_496 = true := by kernel_rfl
theorem r2_496 : RT2 t2_496 p2_496 := way_T (by kernel_rfl) k2_496
theorem k2_498 : runE (fun K => @code K) (fun K => @nats K) 128 4 rest2 tabs p2_498 t2_498 = true := by kernel_rfl
theorem r2_498 : RT2 t2_498 p2_498 := way_T (by kernel_rfl) k2_498
theorem k2_500 : runE (fun K => @code K) (fun K => @nats K) 128 4 rest2 tabs p2_500 t2_500 = true := by kernel_rfl
theorem r2_500 : RT2 t2_500 p2_500 := way_T (by kernel_rfl) k2_500
theorem k2_506 : runE (fun K => @code K) (fun K => @nats K) 128 4 rest2 tabs p2_506 t2_506 = true := by kernel_rfl
theorem r2_506 : RT2 t2_506 p2_506 := way_T (by kernel_rfl) k2_506
theorem k2_508 : runE (fun K => @code K) (fun K => @nats K) 128 4 rest2 tabs p2_508 t2_508 = true := by kernel_rfl
theorem r2_508 : RT2 t2_508 p2_508 := way_T (by kernel_rfl) k2_508
theorem k2_509 : runE (fun K => @code K) (fun K => @nats K) 128 4 rest2 tabs p2_509 t2_509 = true := by kernel_rfl
theorem r2_509 : RT2 t2_509 p2_509 := way_T (by kernel_rfl) k2_509
theorem k2_510 : runE (fun K => @code K) (fun K => @nats K) 128 4 rest2 tabs p2_510 t2_510 = true := by kernel_rfl
theorem r2_510 : RT2 t2_510 p2_510 := way_T (by kernel_rfl) k2_510
theorem k3_73 : runE (fun K => @code K) (fun K => @nats K) 128 4 rest3 tabs p3_73 t3_73 = true := by kernel_rfl
theorem r3_73 : RT3 t3_73 p3_73 := way_T (by kernel_rfl) k3_73
theorem k3_107 : runE (fun K => @code K) (fun K => @nats K) 128 4 rest3 tabs p3_107 t3_107 = true := by kernel_rfl
theorem r3_107 : RT3 t3_107 p3_107 := way_T (by kernel_rfl) k3_107
theorem k3_195 : runE (fun K => @code K) (fun K => @nats K) 128 4 rest3 tabs p3_195 t3_195 = true := by kernel_rfl
theorem r3_195 : RT3 t3_195 p3_195 := way_T (by kernel_rfl) k3_195
theorem k3_229 : runE (fun K => @code K) (fun K => @nats K) 128 4 rest3 tabs p3_229 t3_229 = true := by kernel_rfl
theorem r3_229 : RT3 t3_229 p3_229 := way_T (by kernel_rfl) k3_229
theorem k4_14 : runWayL (fun K => @code K) (fun K => @nats K) 4 neg4 rest4 tabs p4_14 v4_14 = true := by kernel_rfl
theorem r4_14 : RT4 t4_14 p4_14 := way_L (by kernel_rfl) k4_14
end Go.Proofs.YtcghikpogkigcaaGreatDoor.R
