/- The two numbers of a pair's place, as they are known. -/
import Derived.Test.YtainaihfbljjoaaGreatDoorAbTold
set_option linter.all false
set_option linter.unusedSectionVars false
set_option linter.unusedVariables false
set_option linter.unusedSimpArgs false
namespace Go.Proofs.YtainaihfbljjoaaGreatDoor
open Go Go.Ab
noncomputable def modP [Par] : List (Nat × Nat × Nat) := [(6001, 3, Par.q), (6000, 6 - Par.q, Par.a)]
end Go.Proofs.YtainaihfbljjoaaGreatDoor
