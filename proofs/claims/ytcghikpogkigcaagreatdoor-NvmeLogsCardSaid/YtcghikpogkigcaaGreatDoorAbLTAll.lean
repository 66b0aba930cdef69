/- NvmeLogs: the runs, put together. -/
import Derived.Test.YtcghikpogkigcaaGreatDoorAbLT0
import Derived.Test.YtcghikpogkigcaaGreatDoorAbLTC
import Derived.Test.YtcghikpogkigcaaGreatDoorAbLTH
import Derived.Test.YtcghikpogkigcaaGreatDoorAbLT1
import Derived.Test.YtcghikpogkigcaaGreatDoorAbLT2
import Derived.Test.YtcghikpogkigcaaGreatDoorAbLT3
import Derived.Test.YtcghikpogkigcaaGreatDoorAbLT4
import Derived.Test.YtcghikpogkigcaaGreatDoorAbLT5
import Derived.Test.YtcghikpogkigcaaGreatDoorAbLT6
import Derived.Test.YtcghikpogkigcaaGreatDoorAbLT7
import Derived.Test.YtcghikpogkigcaaGreatDoorAbLT8
import Derived.Test.YtcghikpogkigcaaGreatDoorAbLT9
import Derived.Test.YtcghikpogkigcaaGreatDoorAbLT10
import Derived.Test.YtcghikpogkigcaaGreatDoorAbLT11
import Derived.Test.YtcghikpogkigcaaGreatDoorAbLT12
import Derived.Test.YtcghikpogkigcaaGreatDoorAbLT13
import Derived.Test.YtcghikpogkigcaaGreatDoorAbLT14
import Derived.Test.YtcghikpogkigcaaGreatDoorAbLT15
import Derived.Test.YtcghikpogkigcaaGreatDoorAbLT16
import Derived.Test.YtcghikpogkigcaaGreatDoorAbLT17
import Derived.Test.YtcghikpogkigcaaGreatDoorAbLT18
import Derived.Test.YtcghikpogkigcaaGreatDoorAbLT19
set_option linter.all false
set_option linter.unusedSectionVars false
set_option linter.unusedVariables false
set_option linter.unusedSimpArgs false
namespace Go.Proofs.YtcghikpogkigcaaGreatDoor.L
open Go Go.Ab Go.Proofs Go.RowKit
set_option maxRecDepth 1000000
theorem rXN (C : Nat) : ∀ j, 0 ≤ j → j < 1 → runX (.slice none 0 0) [] j = true := by
  intro j h1 h2
  exact range_all (rXN_0 C) j (by omega) (by omega)
theorem rX0 (C : Nat) : ∀ j, 0 ≤ j → j < 1 → runX (.slice (some ⟨9, 0, none⟩) 0 C) (lc 0) j = true := by
  intro j h1 h2
  exact range_all (rX0_0 C) j (by omega) (by omega)
theorem rT1 (C : Nat) : ∀ j, 0 ≤ j → j < 1 → runT (.slice (some ⟨9, 0, none⟩) 1 C) (lc 1) j = true := by
  intro j h1 h2
  exact range_all (rT1_0 C) j (by omega) (by omega)
theorem rX1 (C : Nat) : ∀ j, 1 ≤ j → j < 3 → runX (.slice (some ⟨9, 0, none⟩) 1 C) (lc 1) j = true := by
  intro j h1 h2
  exact range_all (rX1_0 C) j (by omega) (by omega)
theorem rT2 (C : Nat) : ∀ j, 0 ≤ j → j < 3 → runT (.slice (some ⟨9, 0, none⟩) 2 C) (lc 2) j = true := by
  intro j h1 h2
  exact range_all (rT2_0 C) j (by omega) (by omega)
theorem rX2 (C : Nat) : ∀ j, 3 ≤ j → j < 9 → runX (.slice (some ⟨9, 0, none⟩) 2 C) (lc 2) j = true := by
  intro j h1 h2
  exact range_all (rX2_0 C) j (by omega) (by omega)
theorem rT3 (C : Nat) : ∀ j, 0 ≤ j → j < 9 → runT (.slice (some ⟨9, 0, none⟩) 3 C) (lc 3) j = true := by
  intro j h1 h2
  exact range_all (rT3_0 C) j (by omega) (by omega)
theorem rX3 (C : Nat) : ∀ j, 9 ≤ j → j < 25 → runX (.slice (some ⟨9, 0, none⟩) 3 C) (lc 3) j = true := by
  intro j h1 h2
  exact range_all (rX3_0 C) j (by omega) (by omega)
theorem rT4 (C : Nat) : ∀ j, 0 ≤ j → j < 25 → runT (.slice (some ⟨9, 0, none⟩) 4 C) (lc 4) j = true := by
  intro j h1 h2
  by_cases c0 : j < 20
  · exact range_all (rT4_0 C) j (by omega) (by omega)
  exact range_all (rT4_1 C) j (by omega) (by omega)
theorem rX4 (C : Nat) : ∀ j, 25 ≤ j → j < 55 → runX (.slice (some ⟨9, 0, none⟩) 4 C) (lc 4) j = true := by
  intro j h1 h2
  exact range_all (rX4_0 C) j (by omega) (by omega)
theorem rT5 (C : Nat) : ∀ j, 0 ≤ j → j < 55 → runT (.slice (some ⟨9, 0, none⟩) 5 C) (lc 5) j = true := by
  intro j h1 h2
  by_cases c0 : j < 20
  · exact range_all (rT5_0 C) j (by omega) (by omega)
  by_cases c1 : j < 40
  · exact range_all (rT5_1 C) j (by omega) (by omega)
  exact range_all (rT5_2 C) j (by omega) (by omega)
theorem rX5 (C : Nat) : ∀ j, 55 ≤ j → j < 103 → runX (.slice (some ⟨9, 0, none⟩) 5 C) (lc 5) j = true := by
  intro j h1 h2
  exact range_all (rX5_0 C) j (by omega) (by omega)
theorem rT6 (C : Nat) : ∀ j, 0 ≤ j → j < 103 → runT (.slice (some ⟨9, 0, none⟩) 6 C) (lc 6) j = true := by
  intro j h1 h2
  by_cases c0 : j < 20
  · exact range_all (rT6_0 C) j (by omega) (by omega)
  by_cases c1 : j < 40
  · exact range_all (rT6_1 C) j (by omega) (by omega)
  by_cases c2 : j < 60
  · exact range_all (rT6_2 C) j (by omega) (by omega)
  by_cases c3 : j < 78
  · exact range_all (rT6_3 C) j (by omega) (by omega)
  by_cases c4 : j < 96
  · exact range_all (rT6_4 C) j (by omega) (by omega)
  exact range_all (rT6_5 C) j (by omega) (by omega)
theorem rX6 (C : Nat) : ∀ j, 103 ≤ j → j < 173 → runX (.slice (some ⟨9, 0, none⟩) 6 C) (lc 6) j = true := by
  intro j h1 h2
  exact range_all (rX6_0 C) j (by omega) (by omega)
theorem rT7 (C : Nat) : ∀ j, 0 ≤ j → j < 173 → runT (.slice (some ⟨9, 0, none⟩) 7 C) (lc 7) j = true := by
  intro j h1 h2
  by_cases c0 : j < 20
  · exact range_all (rT7_0 C) j (by omega) (by omega)
  by_cases c1 : j < 40
  · exact range_all (rT7_1 C) j (by omega) (by omega)
  by_cases c2 : j < 60
  · exact range_all (rT7_2 C) j (by omega) (by omega)
  by_cases c3 : j < 78
  · exact range_all (rT7_3 C) j (by omega) (by omega)
  by_cases c4 : j < 96
  · exact range_all (rT7_4 C) j (by omega) (by omega)
  by_cases c5 : j < 116
  · exact range_all (rT7_5 C) j (by omega) (by omega)
  by_cases c6 : j < 134
  · exact range_all (rT7_6 C) j (by omega) (by omega)
  by_cases c7 : j < 151
  · exact range_all (rT7_7 C) j (by omega) (by omega)
  by_cases c8 : j < 170
  · exact range_all (rT7_8 C) j (by omega) (by omega)
  exact range_all (rT7_9 C) j (by omega) (by omega)
theorem rX7 (C : Nat) : ∀ j, 173 ≤ j → j < 269 → runX (.slice (some ⟨9, 0, none⟩) 7 C) (lc 7) j = true := by
  intro j h1 h2
  exact range_all (rX7_0 C) j (by omega) (by omega)
theorem rT8 (m C : Nat) : ∀ j, 0 ≤ j → j < 269 → runT (.slice (some ⟨9, 0, none⟩) (m + 8) C) (lc 8) j = true := by
  intro j h1 h2
  by_cases c0 : j < 20
  · exact range_all (rT8_0 m C) j (by omega) (by omega)
  by_cases c1 : j < 40
  · exact range_all (rT8_1 m C) j (by omega) (by omega)
  by_cases c2 : j < 60
  · exact range_all (rT8_2 m C) j (by omega) (by omega)
  by_cases c3 : j < 78
  · exact range_all (rT8_3 m C) j (by omega) (by omega)
  by_cases c4 : j < 96
  · exact range_all (rT8_4 m C) j (by omega) (by omega)
  by_cases c5 : j < 116
  · exact range_all (rT8_5 m C) j (by omega) (by omega)
  by_cases c6 : j < 134
  · exact range_all (rT8_6 m C) j (by omega) (by omega)
  by_cases c7 : j < 151
  · exact range_all (rT8_7 m C) j (by omega) (by omega)
  by_cases c8 : j < 170
  · exact range_all (rT8_8 m C) j (by omega) (by omega)
  by_cases c9 : j < 190
  · exact range_all (rT8_9 m C) j (by omega) (by omega)
  by_cases c10 : j < 208
  · exact range_all (rT8_10 m C) j (by omega) (by omega)
  by_cases c11 : j < 226
  · exact range_all (rT8_11 m C) j (by omega) (by omega)
  by_cases c12 : j < 243
  · exact range_all (rT8_12 m C) j (by omega) (by omega)
  by_cases c13 : j < 261
  · exact range_all (rT8_13 m C) j (by omega) (by omega)
  exact range_all (rT8_14 m C) j (by omega) (by omega)
theorem rX  : ∀ j, 0 ≤ j → j < 225 → runXX j = true := by
  intro j h1 h2
  by_cases c0 : j < 181
  · exact range_all rX_0 j (by omega) (by omega)
  exact range_all rX_1 j (by omega) (by omega)
theorem rM  : ∀ j, 0 ≤ j → j < 225 → runM j = true := by
  intro j h1 h2
  by_cases c0 : j < 196
  · exact range_all rM_0 j (by omega) (by omega)
  exact range_all rM_1 j (by omega) (by omega)
theorem rQ  : ∀ j, 0 ≤ j → j < 1057 → runQ j = true := by
  intro j h1 h2
  by_cases c0 : j < 8
  · exact range_all rQ_0 j (by omega) (by omega)
  by_cases c1 : j < 15
  · exact range_all rQ_1 j (by omega) (by omega)
  by_cases c2 : j < 22
  · exact range_all rQ_2 j (by omega) (by omega)
  by_cases c3 : j < 29
  · exact range_all rQ_3 j (by omega) (by omega)
  by_cases c4 : j < 36
  · exact range_all rQ_4 j (by omega) (by omega)
  by_cases c5 : j < 43
  · exact range_all rQ_5 j (by omega) (by omega)
  by_cases c6 : j < 50
  · exact range_all rQ_6 j (by omega) (by omega)
  by_cases c7 : j < 57
  · exact range_all rQ_7 j (by omega) (by omega)
  by_cases c8 : j < 64
  · exact range_all rQ_8 j (by omega) (by omega)
  by_cases c9 : j < 71
  · exact range_all rQ_9 j (by omega) (by omega)
  by_cases c10 : j < 78
  · exact range_all rQ_10 j (by omega) (by omega)
  by_cases c11 : j < 85
  · exact range_all rQ_11 j (by omega) (by omega)
  by_cases c12 : j < 92
  · exact range_all rQ_12 j (by omega) (by omega)
  by_cases c13 : j < 99
  · exact range_all rQ_13 j (by omega) (by omega)
  by_cases c14 : j < 106
  · exact range_all rQ_14 j (by omega) (by omega)
  by_cases c15 : j < 113
  · exact range_all rQ_15 j (by omega) (by omega)
  by_cases c16 : j < 120
  · exact range_all rQ_16 j (by omega) (by omega)
  by_cases c17 : j < 127
  · exact range_all rQ_17 j (by omega) (by omega)
  by_cases c18 : j < 134
  · exact range_all rQ_18 j (by omega) (by omega)
  by_cases c19 : j < 141
  · exact range_all rQ_19 j (by omega) (by omega)
  by_cases c20 : j < 148
  · exact range_all rQ_20 j (by omega) (by omega)
  by_cases c21 : j < 155
  · exact range_all rQ_21 j (by omega) (by omega)
  by_cases c22 : j < 162
  · exact range_all rQ_22 j (by omega) (by omega)
  by_cases c23 : j < 169
  · exact range_all rQ_23 j (by omega) (by omega)
  by_cases c24 : j < 176
  · exact range_all rQ_24 j (by omega) (by omega)
  by_cases c25 : j < 183
  · exact range_all rQ_25 j (by omega) (by omega)
  by_cases c26 : j < 190
  · exact range_all rQ_26 j (by omega) (by omega)
  by_cases c27 : j < 197
  · exact range_all rQ_27 j (by omega) (by omega)
  by_cases c28 : j < 204
  · exact range_all rQ_28 j (by omega) (by omega)
  by_cases c29 : j < 211
  · exact range_all rQ_29 j (by omega) (by omega)
  by_cases c30 : j < 218
  · exact range_all rQ_30 j (by omega) (by omega)
  by_cases c31 : j < 228
  · exact range_all rQ_31 j (by omega) (by omega)
  by_cases c32 : j < 235
  · exact range_all rQ_32 j (by omega) (by omega)
  by_cases c33 : j < 242
  · exact range_all rQ_33 j (by omega) (by omega)
  by_cases c34 : j < 249
  · exact range_all rQ_34 j (by omega) (by omega)
  by_cases c35 : j < 256
  · exact range_all rQ_35 j (by omega) (by omega)
  by_cases c36 : j < 263
  · exact range_all rQ_36 j (by omega) (by omega)
  by_cases c37 : j < 270
  · exact range_all rQ_37 j (by omega) (by omega)
  by_cases c38 : j < 277
  · exact range_all rQ_38 j (by omega) (by omega)
  by_cases c39 : j < 284
  · exact range_all rQ_39 j (by omega) (by omega)
  by_cases c40 : j < 291
  · exact range_all rQ_40 j (by omega) (by omega)
  by_cases c41 : j < 298
  · exact range_all rQ_41 j (by omega) (by omega)
  by_cases c42 : j < 305
  · exact range_all rQ_42 j (by omega) (by omega)
  by_cases c43 : j < 312
  · exact range_all rQ_43 j (by omega) (by omega)
  by_cases c44 : j < 319
  · exact range_all rQ_44 j (by omega) (by omega)
  by_cases c45 : j < 327
  · exact range_all rQ_45 j (by omega) (by omega)
  by_cases c46 : j < 334
  · exact range_all rQ_46 j (by omega) (by omega)
  by_cases c47 : j < 341
  · exact range_all rQ_47 j (by omega) (by omega)
  by_cases c48 : j < 348
  · exact range_all rQ_48 j (by omega) (by omega)
  by_cases c49 : j < 355
  · exact range_all rQ_49 j (by omega) (by omega)
  by_cases c50 : j < 362
  · exact range_all rQ_50 j (by omega) (by omega)
  by_cases c51 : j < 369
  · exact range_all rQ_51 j (by omega) (by omega)
  by_cases c52 : j < 376
  · exact range_all rQ_52 j (by omega) (by omega)
  by_cases c53 : j < 383
  · exact range_all rQ_53 j (by omega) (by omega)
  by_cases c54 : j < 390
  · exact range_all rQ_54 j (by omega) (by omega)
  by_cases c55 : j < 397
  · exact range_all rQ_55 j (by omega) (by omega)
  by_cases c56 : j < 404
  · exact range_all rQ_56 j (by omega) (by omega)
  by_cases c57 : j < 411
  · exact range_all rQ_57 j (by omega) (by omega)
  by_cases c58 : j < 418
  · exact range_all rQ_58 j (by omega) (by omega)
  by_cases c59 : j < 425
  · exact range_all rQ_59 j (by omega) (by omega)
  by_cases c60 : j < 432
  · exact range_all rQ_60 j (by omega) (by omega)
  by_cases c61 : j < 440
  · exact range_all rQ_61 j (by omega) (by omega)
  by_cases c62 : j < 447
  · exact range_all rQ_62 j (by omega) (by omega)
  by_cases c63 : j < 458
  · exact range_all rQ_63 j (by omega) (by omega)
  by_cases c64 : j < 465
  · exact range_all rQ_64 j (by omega) (by omega)
  by_cases c65 : j < 472
  · exact range_all rQ_65 j (by omega) (by omega)
  by_cases c66 : j < 479
  · exact range_all rQ_66 j (by omega) (by omega)
  by_cases c67 : j < 486
  · exact range_all rQ_67 j (by omega) (by omega)
  by_cases c68 : j < 493
  · exact range_all rQ_68 j (by omega) (by omega)
  by_cases c69 : j < 500
  · exact range_all rQ_69 j (by omega) (by omega)
  by_cases c70 : j < 507
  · exact range_all rQ_70 j (by omega) (by omega)
  by_cases c71 : j < 514
  · exact range_all rQ_71 j (by omega) (by omega)
  by_cases c72 : j < 521
  · exact range_all rQ_72 j (by omega) (by omega)
  by_cases c73 : j < 528
  · exact range_all rQ_73 j (by omega) (by omega)
  by_cases c74 : j < 535
  · exact range_all rQ_74 j (by omega) (by omega)
  by_cases c75 : j < 545
  · exact range_all rQ_75 j (by omega) (by omega)
  by_cases c76 : j < 552
  · exact range_all rQ_76 j (by omega) (by omega)
  by_cases c77 : j < 559
  · exact range_all rQ_77 j (by omega) (by omega)
  by_cases c78 : j < 566
  · exact range_all rQ_78 j (by omega) (by omega)
  by_cases c79 : j < 573
  · exact range_all rQ_79 j (by omega) (by omega)
  by_cases c80 : j < 580
  · exact range_all rQ_80 j (by omega) (by omega)
  by_cases c81 : j < 587
  · exact range_all rQ_81 j (by omega) (by omega)
  by_cases c82 : j < 594
  · exact range_all rQ_82 j (by omega) (by omega)
  by_cases c83 : j < 601
  · exact range_all rQ_83 j (by omega) (by omega)
  by_cases c84 : j < 608
  · exact range_all rQ_84 j (by omega) (by omega)
  by_cases c85 : j < 615
  · exact range_all rQ_85 j (by omega) (by omega)
  by_cases c86 : j < 622
  · exact range_all rQ_86 j (by omega) (by omega)
  by_cases c87 : j < 629
  · exact range_all rQ_87 j (by omega) (by omega)
  by_cases c88 : j < 636
  · exact range_all rQ_88 j (by omega) (by omega)
  by_cases c89 : j < 643
  · exact range_all rQ_89 j (by omega) (by omega)
  by_cases c90 : j < 652
  · exact range_all rQ_90 j (by omega) (by omega)
  by_cases c91 : j < 659
  · exact range_all rQ_91 j (by omega) (by omega)
  by_cases c92 : j < 670
  · exact range_all rQ_92 j (by omega) (by omega)
  by_cases c93 : j < 677
  · exact range_all rQ_93 j (by omega) (by omega)
  by_cases c94 : j < 684
  · exact range_all rQ_94 j (by omega) (by omega)
  by_cases c95 : j < 691
  · exact range_all rQ_95 j (by omega) (by omega)
  by_cases c96 : j < 698
  · exact range_all rQ_96 j (by omega) (by omega)
  by_cases c97 : j < 705
  · exact range_all rQ_97 j (by omega) (by omega)
  by_cases c98 : j < 712
  · exact range_all rQ_98 j (by omega) (by omega)
  by_cases c99 : j < 719
  · exact range_all rQ_99 j (by omega) (by omega)
  by_cases c100 : j < 726
  · exact range_all rQ_100 j (by omega) (by omega)
  by_cases c101 : j < 736
  · exact range_all rQ_101 j (by omega) (by omega)
  by_cases c102 : j < 743
  · exact range_all rQ_102 j (by omega) (by omega)
  by_cases c103 : j < 750
  · exact range_all rQ_103 j (by omega) (by omega)
  by_cases c104 : j < 757
  · exact range_all rQ_104 j (by omega) (by omega)
  by_cases c105 : j < 764
  · exact range_all rQ_105 j (by omega) (by omega)
  by_cases c106 : j < 771
  · exact range_all rQ_106 j (by omega) (by omega)
  by_cases c107 : j < 778
  · exact range_all rQ_107 j (by omega) (by omega)
  by_cases c108 : j < 785
  · exact range_all rQ_108 j (by omega) (by omega)
  by_cases c109 : j < 792
  · exact range_all rQ_109 j (by omega) (by omega)
  by_cases c110 : j < 799
  · exact range_all rQ_110 j (by omega) (by omega)
  by_cases c111 : j < 806
  · exact range_all rQ_111 j (by omega) (by omega)
  by_cases c112 : j < 815
  · exact range_all rQ_112 j (by omega) (by omega)
  by_cases c113 : j < 825
  · exact range_all rQ_113 j (by omega) (by omega)
  by_cases c114 : j < 833
  · exact range_all rQ_114 j (by omega) (by omega)
  by_cases c115 : j < 840
  · exact range_all rQ_115 j (by omega) (by omega)
  by_cases c116 : j < 847
  · exact range_all rQ_116 j (by omega) (by omega)
  by_cases c117 : j < 854
  · exact range_all rQ_117 j (by omega) (by omega)
  by_cases c118 : j < 861
  · exact range_all rQ_118 j (by omega) (by omega)
  by_cases c119 : j < 871
  · exact range_all rQ_119 j (by omega) (by omega)
  by_cases c120 : j < 877
  · exact range_all rQ_120 j (by omega) (by omega)
  by_cases c121 : j < 884
  · exact range_all rQ_121 j (by omega) (by omega)
  by_cases c122 : j < 891
  · exact range_all rQ_122 j (by omega) (by omega)
  by_cases c123 : j < 898
  · exact range_all rQ_123 j (by omega) (by omega)
  by_cases c124 : j < 905
  · exact range_all rQ_124 j (by omega) (by omega)
  by_cases c125 : j < 912
  · exact range_all rQ_125 j (by omega) (by omega)
  by_cases c126 : j < 919
  · exact range_all rQ_126 j (by omega) (by omega)
  by_cases c127 : j < 928
  · exact range_all rQ_127 j (by omega) (by omega)
  by_cases c128 : j < 939
  · exact range_all rQ_128 j (by omega) (by omega)
  by_cases c129 : j < 946
  · exact range_all rQ_129 j (by omega) (by omega)
  by_cases c130 : j < 953
  · exact range_all rQ_130 j (by omega) (by omega)
  by_cases c131 : j < 963
  · exact range_all rQ_131 j (by omega) (by omega)
  by_cases c132 : j < 969
  · exact range_all rQ_132 j (by omega) (by omega)
  by_cases c133 : j < 976
  · exact range_all rQ_133 j (by omega) (by omega)
  by_cases c134 : j < 983
  · exact range_all rQ_134 j (by omega) (by omega)
  by_cases c135 : j < 990
  · exact range_all rQ_135 j (by omega) (by omega)
  by_cases c136 : j < 999
  · exact range_all rQ_136 j (by omega) (by omega)
  by_cases c137 : j < 1010
  · exact range_all rQ_137 j (by omega) (by omega)
  by_cases c138 : j < 1021
  · exact range_all rQ_138 j (by omega) (by omega)
  by_cases c139 : j < 1028
  · exact range_all rQ_139 j (by omega) (by omega)
  by_cases c140 : j < 1036
  · exact range_all rQ_140 j (by omega) (by omega)
  by_cases c141 : j < 1048
  · exact range_all rQ_141 j (by omega) (by omega)
  exact range_all rQ_142 j (by omega) (by omega)
theorem pX  : ∀ j, 0 ≤ j → j < 395 → spX j = true := by
  intro j h1 h2
  by_cases c0 : j < 200
  · exact range_all pX_0 j (by omega) (by omega)
  exact range_all pX_1 j (by omega) (by omega)
theorem pXX  : ∀ j, 0 ≤ j → j < 225 → spXX j = true := by
  intro j h1 h2
  by_cases c0 : j < 200
  · exact range_all pXX_0 j (by omega) (by omega)
  exact range_all pXX_1 j (by omega) (by omega)
theorem pM  : ∀ j, 0 ≤ j → j < 225 → spM j = true := by
  intro j h1 h2
  by_cases c0 : j < 200
  · exact range_all pM_0 j (by omega) (by omega)
  exact range_all pM_1 j (by omega) (by omega)
end Go.Proofs.YtcghikpogkigcaaGreatDoor.L
