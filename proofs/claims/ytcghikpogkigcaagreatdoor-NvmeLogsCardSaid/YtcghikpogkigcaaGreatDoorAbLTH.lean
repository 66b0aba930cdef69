/- NvmeLogs: lists of eight entries, and of more: the runs put together. -/
import Derived.Test.YtcghikpogkigcaaGreatDoorAbLTD
import Derived.Test.YtcghikpogkigcaaGreatDoorAbLTE
import Derived.Test.YtcghikpogkigcaaGreatDoorAbLTF
import Derived.Test.YtcghikpogkigcaaGreatDoorAbLTG
set_option linter.all false
set_option linter.unusedSectionVars false
set_option linter.unusedVariables false
set_option linter.unusedSimpArgs false
namespace Go.Proofs.YtcghikpogkigcaaGreatDoor.L
open Go Go.Ab Go.Proofs Go.RowKit
set_option maxRecDepth 1000000
theorem rXD (C : Nat) : ∀ j, 269 ≤ j → j < 395 → runXD (.slice (some ⟨9, 0, none⟩) 8 C) (lc 8) j = true := by
  intro j h1 h2
  by_cases c0 : j < 290
  · exact range_all (rXD_0 C) j (by omega) (by omega)
  by_cases c1 : j < 311
  · exact range_all (rXD_1 C) j (by omega) (by omega)
  by_cases c2 : j < 332
  · exact range_all (rXD_2 C) j (by omega) (by omega)
  by_cases c3 : j < 353
  · exact range_all (rXD_3 C) j (by omega) (by omega)
  by_cases c4 : j < 374
  · exact range_all (rXD_4 C) j (by omega) (by omega)
  exact range_all (rXD_5 C) j (by omega) (by omega)
theorem rX9 (m C : Nat) : ∀ j, 269 ≤ j → j < 395 → runX (.slice (some ⟨9, 0, none⟩) (m + 1 + 8) C) (lc 8) j = true := by
  intro j h1 h2
  by_cases c0 : j < 290
  · exact range_all (rX9_0 m C) j (by omega) (by omega)
  by_cases c1 : j < 311
  · exact range_all (rX9_1 m C) j (by omega) (by omega)
  by_cases c2 : j < 332
  · exact range_all (rX9_2 m C) j (by omega) (by omega)
  by_cases c3 : j < 353
  · exact range_all (rX9_3 m C) j (by omega) (by omega)
  by_cases c4 : j < 374
  · exact range_all (rX9_4 m C) j (by omega) (by omega)
  exact range_all (rX9_5 m C) j (by omega) (by omega)
theorem rT8c (C : Nat) : ∀ j, 0 ≤ j → j < 269 → runT (.slice (some ⟨9, 0, none⟩) 8 C) (lc 8) j = true := by
  intro j h1 h2
  by_cases c0 : j < 24
  · exact range_all (rT8c_0 C) j (by omega) (by omega)
  by_cases c1 : j < 48
  · exact range_all (rT8c_1 C) j (by omega) (by omega)
  by_cases c2 : j < 72
  · exact range_all (rT8c_2 C) j (by omega) (by omega)
  by_cases c3 : j < 96
  · exact range_all (rT8c_3 C) j (by omega) (by omega)
  by_cases c4 : j < 120
  · exact range_all (rT8c_4 C) j (by omega) (by omega)
  by_cases c5 : j < 144
  · exact range_all (rT8c_5 C) j (by omega) (by omega)
  by_cases c6 : j < 168
  · exact range_all (rT8c_6 C) j (by omega) (by omega)
  by_cases c7 : j < 192
  · exact range_all (rT8c_7 C) j (by omega) (by omega)
  by_cases c8 : j < 216
  · exact range_all (rT8c_8 C) j (by omega) (by omega)
  by_cases c9 : j < 240
  · exact range_all (rT8c_9 C) j (by omega) (by omega)
  by_cases c10 : j < 264
  · exact range_all (rT8c_10 C) j (by omega) (by omega)
  exact range_all (rT8c_11 C) j (by omega) (by omega)
end Go.Proofs.YtcghikpogkigcaaGreatDoor.L
