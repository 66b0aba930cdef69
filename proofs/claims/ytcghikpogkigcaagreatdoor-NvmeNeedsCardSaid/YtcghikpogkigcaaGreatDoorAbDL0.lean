/- Runs by ways. -/
import Derived.Test.YtcghikpogkigcaaGreatDoorAbDL
set_option linter.all false
set_option linter.unusedSectionVars false
set_option linter.unusedVariables false
set_option linter.unusedSimpArgs false
namespace Go.Proofs.YtcghikpogkigcaaGreatDoor.R
open Go Go.Ab Go.Proofs Go.RowKit
set_option maxRecDepth 1000000

theorem k2_88 : runE (fun K => @code K) (fun K => @nats K) 128 4 rest2 tabs p2_88 t2_88 = true := by kernel_rfl
theorem r2_88 : RT2 t2_88 p2_88 := way_T (by kernel_rfl) k2_88
theorem k2_90 : runE (fun K => @code K) (fun K => @nats K) 128 4 rest2 tabs p2_90 t2_90 = true := by kernel_rfl
theorem r2_90 : RT2 t2_90 p2_90 := way_T (by kernel_rfl) k2_90
theorem k2_92 : runE (fun K => @code K) (fun K => @nats K) 128 4 rest2 tabs p2_92 t2_92 = true := by kernel_rfl
theorem r2_92 : RT2 t2_92 p2_92 := way_T (by kernel_rfl) k2_92
theorem k2_93 : runE (fun K => @code K) (fun K => @nats K) 128 4 rest2 tabs p2_93 t2_93 = true := by kernel_rfl
theorem r2_93 : RT2 t2_93 p2_93 := way_T (by kernel_rfl) k2_93
theorem k2_94 : runE (fun K => @code K) (fun K => @nats K) 128 4 rest2 tabs p2_94 t2_94 = true := by kernel_rfl
theorem r2_94 : RT2 t2_94 p2_94 := way_T (by kernel_rfl) k2_94
theorem k2_96 : runE (fun K => @code K) (fun K => @nats K) 128 4 rest2 tabs p2_96 t2_96 = true := by kernel_rfl
theorem r2_96 : RT2 t2_96 p2_96 := way_T (by kernel_rfl) k2_96
theorem k2_98 : runE (fun K => @code K) (fun K => @nats K) 128 4 rest2 tabs p2_98 t2_98 = true := by kernel_rfl
theorem r2_98 : RT2 t2_98 p2_98 := way_T (by kernel_rfl) k2_98
theorem k2_99 : runE (fun K => @code K) (fun K => @nats K) 128 4 rest2 tabs p2_99 t2_99 = true := by kernel_rfl
theorem r2_99 : RT2 t2_99 p2_99 := way_T (by kernel_rfl) k2_99
theorem k2_100 : runE (fun K => @code K) (fun K => @nats K) 128 4 rest2 tabs p2_100 t2_100 = true := by kernel_rfl
theorem r2_100 : RT2 t2_100 p2_100 := way_T (by kernel_rfl) k2_100
theorem k2_102 : runE (fun K => @code K) (fun K => @nats K) 128 4 rest2 tabs p2_102 t2_102 = true := by kernel_rfl
theorem r2_102 : RT2 t2_102 p2_102 := way_T (by kernel_rfl) k2_102
theorem k2_104 : runE (fun K => @code K) (fun K => @nats K) 128 4 rest2 tabs p2_104 t2_104 = true := by kernel_rfl
theorem r2_104 : RT2 t2_104 p2_104 := way_T (by kernel_rfl) k2_104
theorem k2_106 : runE (fun K => @code K) (fun K => @nats K) 128 4 rest2 tabs p2_106 t2_106 = true := by kernel_rfl
theorem r2_106 : RT2 t2_106 p2_106 := way_T (by kernel_rfl) k2_106
theorem k2_107 : runE (fun K => @code K) (fun K => @nats K) 128 4 rest2 tabs p2_107 t2_107 = true := by kernel_rfl
theorem r2_107 : RT2 t2_107 p2_107 := way_T (by kernel_rfl) k2_107
theorem k2_108 : runE (fun K => @code K) (fun K => @nats K) 128 4 rest2 tabs p2_108 t2_108 = true := by kernel_rfl
theorem r2_108 : RT2 t2_108 p2_108 := way_T (by kernel_rfl) k2_108
theorem k2_115 : runE (fun K => @code K) (fun K => @nats K) 128 4 rest2 tabs p2_115 t2_115 = true := by kernel_rfl
theorem r2_115 : RT2 t2_115 p2_115 := way_T (by kernel_rfl) k2_115
theorem k2_192 : runE (fun K => @code K) (fun K => @nats K) 128 4 rest2 tabs p2_192 t2_192 = true := by kernel_rfl
theorem r2_192 : RT2 t2_192 p2_192 := way_T (by kernel_rfl) k2_192
theorem k2_194 : runE (fun K => @code K) (fun K => @nats K) 128 4 rest2 tabs p2_194 t2_194 = true := by kernel_rfl
theorem r2_194 : RT2 t2_194 p2_194 := way_T (by kernel_rfl) k2_194
theorem k2_196 : runE (fun K => @code K) (fun K => @nats K) 128 4 rest2 tabs p2_196 t2_196 = true := by kernel_rfl
theorem r2_196 : RT2 t2_196 p2_196 := way_T (by kernel_rfl) k2_196
theorem k2_197 : runE (fun K => @code K) (fun K => @nats K) 128 4 rest2 tabs p2_197 t2_197 = true := by kernel_rfl
theorem r2_197 : RT2 t2_197 p2_197 := way_T (by kernel_rfl) k2_197
theorem k2_198 : runE (fun K => @code K) (fun K => @nats K) 128 4 rest2 tabs p2_198 t2_198 = true := by kernel_rfl
theorem r2_198 : RT2 t2_198 p2_198 := way_T (by kernel_rfl) k2_198
theorem k2_200 : runE (fun K => @code K) (fun K => @nats K) 128 4 rest2 tabs p2_200 t2_200 = true := by kernel_rfl
theorem r2_200 : RT2 t2_200 p2_200 := way_T (by kernel_rfl) k2_200
theorem k2_202 : runE (fun K => @code K) (fun K => @nats K) 128 4 rest2 tabs p2_202 t2_202 = true := by kernel_rfl
theorem r2_202 : RT2 t2_202 p2_202 := way_T (by kernel_rfl) k2_202
theorem k2_203 : runE (fun K => @code K) (fun K => @nats K) 128 4 rest2 tabs p2_203 t2_203 = true := by kernel_rfl
theorem r2_203 : RT2 t2_203 p2_203 := way_T (by kernel_rfl) k2_203
theorem k2_204 : runE (fun K => @code K) (fun K => @nats K) 128 4 rest2 tabs p2_204 t2_204 = true := by kernel_rfl
theorem r2_204 : RT2 t2_204 p2_204 := way_T (by kernel_rfl) k2_204
theorem k2_208 : runE (fun K => @code K) (fun K => @nats K) 128 4 rest2 tabs p2_208 t2_208 = true := by kernel_rfl
theorem r2_208 : RT2 t2_208 p2_208 := way_T (by kernel_rfl) k2_208
theorem k2_210 : runE (fun K => @code K) (fun K => @nats K) 128 4 rest2 tabs p2_210 t2_210 = true := by kernel_rfl
theorem r2_210 : RT2 t2_210 p2_210 := way_T (by kernel_rfl) k2_210
theorem k2_211 : runE (fun K => @code K) (fun K => @nats K) 128 4 rest2 tabs p2_211 t2_211 = true := by kernel_rfl
theorem r2_211 : RT2 t2_211 p2_211 := way_T (by kernel_rfl) k2_211
theorem k2_212 : runE (fun K => @code K) (fun K => @nats K) 128 4 rest2 tabs p2_212 t2_212 = true := by kernel_rfl
theorem r2_212 : RT2 t2_212 p2_212 := way_T (by kernel_rfl) k2_212
theorem k2_350 : runE (fun K => @code K) (fun K => @nats K) 128 4 rest2 tabs p2_350 t2_350 = true := by kernel_rfl
theorem r2_350 : RT2 t2_350 p2_350 := way_T (by kernel_rfl) k2_350
theorem k2_352 : runE (fun K => @code K) (fun K => @nats K) 128 4 rest2 tabs p2_352 t2_352 = true := by kernel_rfl
theorem r2_352 : RT2 t2_352 p2_352 := way_T (by kernel_rfl) k2_352
theorem k2_354 : runE (fun K => @code K) (fun K => @nats K) 128 4 rest2 tabs p2_354 t2_354 = true := by kernel_rfl
theorem r2_354 : RT2 t2_354 p2_354 := way_T (by kernel_rfl) k2_354
theorem k2_355 : runE (fun K => @code K) (fun K => @nats K) 128 4 rest2 tabs p2_355 t2_355 = true := by kernel_rfl
theorem r2_355 : RT2 t2_355 p2_355 := way_T (by kernel_rfl) k2_355
theorem k2_356 : runE (fun K => @code K) (fun K => @nats K) 128 4 rest2 tabs p2_356 t2_356 = true := by kernel_rfl
theorem r2_356 : RT2 t2_356 p2_356 := way_T (by kernel_rfl) k2_356
theorem k2_369 : runE (fun K => @code K) (fun K => @nats K) 128 4 rest2 tabs p2_369 t2_369 = true := by kernel_rfl
theorem r2_369 : RT2 t2_369 p2_369 := way_T (by kernel_rfl) k2_369
theorem k2_454 : runE (fun K => @code K) (fun K => @nats K) 128 4 rest2 tabs p2_454 t2_454 = true := by kernel_rfl
theorem r2_454 : RT2 t2_454 p2_454 := way_T (by kernel_rfl) k2_454
theorem k2_456 : runE (fun K => @code K) (fun K => @nats K) 128 4 rest2 tabs p2_456 t2_456 = true := by kernel_rfl
theorem r2_456 : RT2 t2_456 p2_456 := way_T (by kernel_rfl) k2_456
theorem k2_458 : runE (fun K => @code K) (fun K => @nats K) 128 4 rest2 tabs p2_458 t2_458 = true := by kernel_rfl
theorem r2_458 : RT2 t2_458 p2_458 := way_T (by kernel_rfl) k2_458
theorem k2_459 : runE (fun K => @code K) (fun K => @nats K) 128 4 rest2 tabs p2_459 t2_459 = true := by kernel_rfl
theorem r2_459 : RT2 t2_459 p2_459 := way_T (by kernel_rfl) k2_459
theorem k2_460 : runE (fun K => @code K) (fun K => @nats K) 128 4 rest2 tabs p2_460 t2_460 = true := by kernel_rfl
theorem r2_460 : RT2 t2_460 p2_460 := way_T (by kernel_rfl) k2_460
theorem k2_473 : runE (fun K => @code K) (fun K => @nats K) 128 4 rest2 tabs p2_473 t2_473 = true := by kernel_rfl
theorem r2_473 : RT2 t2_473 p2_473 := way_T (by kernel_rfl) k2_473
end Go.Proofs.YtcghikpogkigcaaGreatDoor.R
