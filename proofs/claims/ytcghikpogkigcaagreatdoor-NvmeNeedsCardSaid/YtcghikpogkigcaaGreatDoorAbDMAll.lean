/- Answers told ahead, function by function. -/
import Derived.Test.YtcghikpogkigcaaGreatDoorAbDM0
set_option linter.all false
set_option linter.unusedSectionVars false
set_option linter.unusedVariables false
set_option linter.unusedSimpArgs false
namespace Go.Proofs.YtcghikpogkigcaaGreatDoor
open Go Go.Ab Go.Proofs Go.RowKit
set_option maxRecDepth 1000000

/-- headgate/headgatelaw28.wakes -/
noncomputable def told7 : Ab.Told := [(7, a7_0, v7_0)]
theorem all7 [Unk] : AllRight Tryz.prog tabsT1_5_7 7 told7 := ⟨right7_0, trivial⟩
end Go.Proofs.YtcghikpogkigcaaGreatDoor
