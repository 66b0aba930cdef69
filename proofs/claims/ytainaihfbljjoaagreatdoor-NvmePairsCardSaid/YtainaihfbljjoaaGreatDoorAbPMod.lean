/- headgatekeep.Mod: a remainder that is not negative. -/
import Derived.Test.YtainaihfbljjoaaGreatDoorProg
import Derived.Test.YtainaihfbljjoaaGreatDoorAbTold
import Derived.WalkKit
import Derived.WalkLawsBesides
set_option linter.all false
set_option linter.unusedSectionVars false
set_option linter.unusedVariables false
set_option linter.unusedSimpArgs false
namespace Go.Proofs.YtainaihfbljjoaaGreatDoor
open Go Go.Ab Go.Proofs Go.RowKit
set_option maxRecDepth 1000000
set_option maxHeartbeats 1000000 in
theorem mod_walk (k m : Int) (w : World) (h1 : 1 ≤ m) (h2 : m ≤ 4096) : Calls Tryz.prog 5 #[.int .i64 k, .int .i64 m] w fun e w' => e = .returned (.int .i64 (modV k m)) ∧ Below w.heap.size w w' := by
  have hb : -m < k.tmod m ∧ k.tmod m < m := ⟨by have := Int.lt_tmod_of_pos k (show 0 < m by omega); omega, Int.tmod_lt_of_pos k (by omega)⟩
  go_enter Tryz.func5, Tryz.ntmps5
  go_wp2
  all_goals (go_ret; refine ⟨?_, Below.refl _ _⟩; simp [modV]; rw [Int.tmod_eq_emod_of_nonneg (show 0 ≤ k.tmod m + m by omega), Int.add_emod_right])
end Go.Proofs.YtainaihfbljjoaaGreatDoor
