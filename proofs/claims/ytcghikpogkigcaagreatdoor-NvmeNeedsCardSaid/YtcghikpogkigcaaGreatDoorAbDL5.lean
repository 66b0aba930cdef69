/- Runs by ways. -/
import Derived.Test.YtcghikpogkigcaaGreatDoorAbDL
set_option linter.all false
set_option linter.unusedSectionVars false
set_option linter.unusedVariables false
set_option linter.unusedSimpArgs false
namespace Go.Proofs.YtcghikpogkigcaaGreatDoor.R
open Go Go.Ab Go.Proofs Go.RowKit
set_option maxRecDepth 1000000

theorem k0_226 : runE (fun K => @code K) (fun K => @nats K) 64 4 rest0 tabs p0_226 t0_226 = true := by kernel_rfl
theorem r0_226 : RT0 t0_226 p0_226 := way_T (by kernel_rfl) k0_226
theorem k2_18 : runE (fun K => @code K) (fun K => @nats K) 128 4 rest2 tabs p2_18 t2_18 = true := by kernel_rfl
theorem r2_18 : RT2 t2_18 p2_18 := way_T (by kernel_rfl) k2_18
theorem k2_20 : runE (fun K => @code K) (fun K => @nats K) 128 4 rest2 tabs p2_20 t2_20 = true := by kernel_rfl
theorem r2_20 : RT2 t2_20 p2_20 := way_T (by kernel_rfl) k2_20
theorem k2_24 : runE (fun K => @code K) (fun K => @nats K) 128 4 rest2 tabs p2_24 t2_24 = true := by kernel_rfl
theorem r2_24 : RT2 t2_24 p2_24 := way_T (by kernel_rfl) k2_24
theorem k2_28 : runE (fun K => @code K) (fun K => @nats K) 128 4 rest2 tabs p2_28 t2_28 = true := by kernel_rfl
theorem r2_28 : RT2 t2_28 p2_28 := way_T (by kernel_rfl) k2_28
theorem k2_29 : runE (fun K => @code K) (fun K => @nats K) 128 4 rest2 tabs p2_29 t2_29 = true := by kernel_rfl
theorem r2_29 : RT2 t2_29 p2_29 := way_T (by kernel_rfl) k2_29
theorem k2_30 : runE (fun K => @code K) (fun K => @nats K) 128 4 rest2 tabs p2_30 t2_30 = true := by kernel_rfl
theorem r2_30 : RT2 t2_30 p2_30 := way_T (by kernel_rfl) k2_30
theorem k2_36 : runE (fun K => @code K) (fun K => @nats K) 128 4 rest2 tabs p2_36 t2_36 = true := by kernel_rfl
theorem r2_36 : RT2 t2_36 p2_36 := way_T (by kernel_rfl) k2_36
theorem k2_38 : runE (fun K => @code K) (fun K => @nats K) 128 4 rest2 tabs p2_38 t2_38 = true := by kernel_rfl
theorem r2_38 : RT2 t2_38 p2_38 := way_T (by kernel_rfl) k2_38
theorem k2_42 : runE (fun K => @code K) (fun K => @nats K) 128 4 rest2 tabs p2_42 t2_42 = true := by kernel_rfl
theorem r2_42 : RT2 t2_42 p2_42 := way_T (by kernel_rfl) k2_42
theorem k2_46 : runE (fun K => @code K) (fun K => @nats K) 128 4 rest2 tabs p2_46 t2_46 = true := by kernel_rfl
theorem r2_46 : RT2 t2_46 p2_46 := way_T (by kernel_rfl) k2_46
theorem k2_47 : runE (fun K => @code K) (fun K => @nats K) 128 4 rest2 tabs p2_47 t2_47 = true := by kernel_rfl
theorem r2_47 : RT2 t2_47 p2_47 := way_T (by kernel_rfl) k2_47
theorem k2_48 : runE (fun K => @code K) (fun K => @nats K) 128 4 rest2 tabs p2_48 t2_48 = true := by kernel_rfl
theorem r2_48 : RT2 t2_48 p2_48 := way_T (by kernel_rfl) k2_48
theorem k2_58 : runE (fun K => @code K) (fun K => @nats K) 128 4 rest2 tabs p2_58 t2_58 = true := by kernel_rfl
theorem r2_58 : RT2 t2_58 p2_58 := way_T (by kernel_rfl) k2_58
theorem k2_60 : runE (fun K => @code K) (fun K => @nats K) 128 4 rest2 tabs p2_60 t2_60 = true := by kernel_rfl
theorem r2_60 : RT2 t2_60 p2_60 := way_T (by kernel_rfl) k2_60
theorem k2_146 : runE (fun K => @code K) (fun K => @nats K) 128 4 rest2 tabs p2_146 t2_146 = true := by kernel_rfl
theorem r2_146 : RT2 t2_146 p2_146 := way_T (by kernel_rfl) k2_146
theorem k2_154 : runE (fun K => @code K) (fun K => @nats K) 128 4 rest2 tabs p2_154 t2_154 = true := by kernel_rfl
theorem r2_154 : RT2 t2_154 p2_154 := way_T (by kernel_rfl) k2_154
theorem k2_155 : runE (fun K => @code K) (fun K => @nats K) 128 4 rest2 tabs p2_155 t2_155 = true := by kernel_rfl
theorem r2_155 : RT2 t2_155 p2_155 := way_T (by kernel_rfl) k2_155
theorem k2_156 : runE (fun K => @code K) (fun K => @nats K) 128 4 rest2 tabs p2_156 t2_156 = true := by kernel_rfl
theorem r2_156 : RT2 t2_156 p2_156 := way_T (by kernel_rfl) k2_156
theorem k3_96 : runE (fun K => @code K) (fun K => @nats K) 128 4 rest3 tabs p3_96 t3_96 = true := by kernel_rfl
theorem r3_96 : RT3 t3_96 p3_96 := way_T (by kernel_rfl) k3_96
theorem k3_98 : runE (fun K => @code K) (fun K => @nats K) 128 4 rest3 tabs p3_98 t3_98 = true := by kernel_rfl
theorem r3_98 : RT3 t3_98 p3_98 := way_T (by kernel_rfl) k3_98
theorem k3_112 : runE (fun K => @code K) (fun K => @nats K) 128 4 rest3 tabs p3_112 t3_112 = true := by kernel_rfl
theorem r3_112 : RT3 t3_112 p3_112 := way_T (by kernel_rfl) k3_112
theorem k3_114 : runE (fun K => @code K) (fun K => @nats K) 128 4 rest3 tabs p3_114 t3_114 = true := by kernel_rfl
theorem r3_114 : RT3 t3_114 p3_114 := way_T (by kernel_rfl) k3_114
theorem k3_115 : runE (fun K => @code K) (fun K => @nats K) 128 4 rest3 tabs p3_115 t3_115 = true := by kernel_rfl
theorem r3_115 : RT3 t3_115 p3_115 := way_T (by kernel_rfl) k3_115
theorem k3_116 : runE (fun K => @code K) (fun K => @nats K) 128 4 rest3 tabs p3_116 t3_116 = true := by kernel_rfl
theorem r3_116 : RT3 t3_116 p3_116 := way_T (by kernel_rfl) k3_116
theorem k3_143 : runE (fun K => @code K) (fun K => @nats K) 128 4 rest3 tabs p3_143 t3_143 = true := by kernel_rfl
theorem r3_143 : RT3 t3_143 p3_143 := way_T (by kernel_rfl) k3_143
theorem k3_144 : runE (fun K => @code K) (fun K => @nats K) 128 4 rest3 tabs p3_144 t3_144 = true := by kernel_rfl
theorem r3_144 : RT3 t3_144 p3_144 := way_T (by kernel_rfl) k3_144
theorem k3_147 : runE (fun K => @code K) (fun K => @nats K) 128 4 rest3 tabs p3_147 t3_147 = true := by kernel_rfl
theorem r3_147 : RT3 t3_147 p3_147 := way_T (by kernel_rfl) k3_147
theorem k3_148 : runE (fun K => @code K) (fun K => @nats K) 128 4 rest3 tabs p3_148 t3_148 = true := by kernel_rfl
theorem r3_148 : RT3 t3_148 p3_148 := way_T (by kernel_rfl) k3_148
theorem k3_161 : runE (fun K => @code K) (fun K => @nats K) 128 4 rest3 tabs p3_161 t3_161 = true := by kernel_rfl
theorem r3_161 : RT3 t3_161 p3_161 := way_T (by kernel_rfl) k3_161
theorem k3_162 : runE (fun K => @code K) (fun K => @nats K) 128 4 rest3 tabs p3_162 t3_162 = true := by kernel_rfl
theorem r3_162 : RT3 t3_162 p3_162 := way_T (by kernel_rfl) k3_162
theorem k3_165 : runE (fun K => @code K) (fun K => @nats K) 128 4 rest3 tabs p3_165 t3_165 = true := by kernel_rfl
theorem r3_165 : RT3 t3_165 p3_165 := way_T (by kernel_rfl) k3_165
theorem k3_166 : runE (fun K => @code K) (fun K => @nats K) 128 4 rest3 tabs p3_166 t3_166 = true := by kernel_rfl
theorem r3_166 : RT3 t3_166 p3_166 := way_T (by kernel_rfl) k3_166
theorem k3_184 : runE (fun K => @code K) (fun K => @nats K) 128 4 rest3 tabs p3_184 t3_184 = true := by kernel_rfl
theorem r3_184 : RT3 t3_184 p3_184 := way_T (by kernel_rfl) k3_184
theorem k3_186 : runE (fun K => @code K) (fun K => @nats K) 128 4 rest3 tabs p3_186 t3_186 = true := by kernel_rfl
theorem r3_186 : RT3 t3_186 p3_186 := way_T (by kernel_rfl) k3_186
theorem k3_188 : runE (fun K => @code K) (fun K => @nats K) 128 4 rest3 tabs p3_188 t3_188 = true := by kernel_rfl
theorem r3_188 : RT3 t3_188 p3_188 := way_T (by kernel_rfl) k3_188
theorem k3_190 : runE (fun K => @code K) (fun K => @nats K) 128 4 rest3 tabs p3_190 t3_190 = true := by kernel_rfl
theorem r3_190 : RT3 t3_190 p3_190 := way_T (by kernel_rfl) k3_190
theorem k3_192 : runE (fun K => @code K) (fun K => @nats K) 128 4 rest3 tabs p3_192 t3_192 = true := by kernel_rfl
theorem r3_192 : RT3 t3_192 p3_192 := way_T (by kernel_rfl) k3_192
theorem k3_194 : runE (fun K => @code K) (fun K => @nats K) 128 4 rest3 tabs p3_194 t3_194 = true := by kernel_rfl
theorem r3_194 : RT3 t3_194 p3_194 := way_T (by kernel_rfl) k3_194
theorem k3_196 : runE (fun K => @code K) (fun K => @nats K) 128 4 rest3 tabs p3_196 t3_196 = true := by kernel_rfl
theorem r3_196 : RT3 t3_196 p3_196 := way_T (by kernel_rfl) k3_196
theorem k3_200 : runE (fun K => @code K) (fun K => @nats K) 128 4 rest3 tabs p3_200 t3_200 = true := by kernel_rfl
theorem r3_200 : RT3 t3_200 p3_200 := way_T (by kernel_rfl) k3_200
theorem k3_202 : runE (fun K => @code K) (fun K => @nats K) 128 4 rest3 tabs p3_202 t3_202 = true := by kernel_rfl
theorem r3_202 : RT3 t3_202 p3_202 := way_T (by kernel_rfl) k3_202
theorem k3_203 : runE (fun K => @code K) (fun K => @nats K) 128 4 rest3 tabs p3_203 t3_203 = true := by kernel_rfl
theorem r3_203 : RT3 t3_203 p3_203 := way_T (by kernel_rfl) k3_203
theorem k3_204 : runE (fun K => @code K) (fun K => @nats K) 128 4 rest3 tabs p3_204 t3_204 = true := by kernel_rfl
theorem r3_204 : RT3 t3_204 p3_204 := way_T (by kernel_rfl) k3_204
theorem k3_218 : runE (fun K => @code K) (fun K => @nats K) 128 4 rest3 tabs p3_218 t3_218 = true := by kernel_rfl
theorem r3_218 : RT3 t3_218 p3_218 := way_T (by kernel_rfl) k3_218
theorem k3_220 : runE (fun K => @code K) (fun K => @nats K) 128 4 rest3 tabs p3_220 t3_220 = true := by kernel_rfl
theorem r3_220 : RT3 t3_220 p3_220 := way_T (by kernel_rfl) k3_220
theorem k3_222 : runE (fun K => @code K) (fun K => @nats K) 128 4 rest3 tabs p3_222 t3_222 = true := by kernel_rfl
theorem r3_222 : RT3 t3_222 p3_222 := way_T (by kernel_rfl) k3_222
theorem k3_224 : runE (fun K => @code K) (fun K => @nats K) 128 4 rest3 tabs p3_224 t3_224 = true := by kernel_rfl
theorem r3_224 : RT3 t3_224 p3_224 := way_T (by kernel_rfl) k3_224
theorem k3_226 : runE (fun K => @code K) (fun K => @nats K) 128 4 rest3 tabs p3_226 t3_226 = true := by kernel_rfl
theorem r3_226 : RT3 t3_226 p3_226 := way_T (by kernel_rfl) k3_226
theorem k3_228 : runE (fun K => @code K) (fun K => @nats K) 128 4 rest3 tabs p3_228 t3_228 = true := by kernel_rfl
theorem r3_228 : RT3 t3_228 p3_228 := way_T (by kernel_rfl) k3_228
theorem k3_230 : runE (fun K => @code K) (fun K => @nats K) 128 4 rest3 tabs p3_230 t3_230 = true := by kernel_rfl
theorem r3_230 : RT3 t3_230 p3_230 := way_T (by kernel_rfl) k3_230
theorem k3_234 : runE (fun K => @code K) (fun K => @nats K) 128 4 rest3 tabs p3_234 t3_234 = true := by kernel_rfl
theorem r3_234 : RT3 t3_234 p3_234 := way_T (by kernel_rfl) k3_234
theorem k3_236 : runE (fun K => @code K) (fun K => @nats K) 128 4 rest3 tabs p3_236 t3_236 = true := by kernel_rfl
theorem r3_236 : RT3 t3_236 p3_236 := way_T (by kernel_rfl) k3_236
theorem k3_237 : runE (fun K => @code K) (fun K => @nats K) 128 4 rest3 tabs p3_237 t3_237 = true := by kernel_rfl
theorem r3_237 : RT3 t3_237 p3_237 := way_T (by kernel_rfl) k3_237
theorem k3_238 : runE (fun K => @code K) (fun K => @nats K) 128 4 rest3 tabs p3_238 t3_238 = true := by kernel_rfl
theorem r3_238 : RT3 t3_238 p3_238 := way_T (by kernel_rfl) k3_238
end Go.Proofs.YtcghikpogkigcaaGreatDoor.R
