/- Answers told ahead, function by function. -/
import Derived.Test.YtcghikpogkigcaaGreatDoorAbDM0
set_option linter.all false
set_option linter.unusedSectionVars false
set_option linter.unusedVariables false
set_option linter.unusedSimpArgs false
namespace Go.Proofs.YtcghikpogkigcaaGreatDoor
open Go Go.Ab Go.Proofs Go.RowKit
set_option maxRecDepth 1000000

/-- headgate/headgatelaw28.wakes -/
noncomputable def told7 : Ab.Told := [(7, a7_0, v7_0)]
theorem all7 [Unk] : AllRight Tryz.prog tabsT1_5_7 7 told7 := ⟨right7_0, trivial⟩
/-- headgate/headgatekeep.Zeros -/
noncomputable def told11 : Ab.Told := [(7000167, a11_0, v11_0), (7000159, a11_1, v11_1), (7000203, a11_2, v11_2)]
theorem all11 [Unk] : AllRight Tryz.prog tabsT 11 told11 := ⟨right11_0, right11_1, right11_2, trivial⟩
/-- headgate/nvme.taken -/
noncomputable def told26 : Ab.Told := [(10276965668848288667, a26_0, v26_0)]
theorem all26 [Unk] : AllRight Tryz.prog tabsT5 26 told26 := ⟨right26_0, trivial⟩
/-- headgate/fields.PutLittle -/
noncomputable def told81 : Ab.Told := [(7000161000546, a81_0, v81_0), (7000161000542, a81_1, v81_1), (7000162000545, a81_2, v81_2)]
theorem all81 [Unk] : AllRight Tryz.prog tabsT 81 told81 := ⟨right81_0, right81_1, right81_2, trivial⟩
end Go.Proofs.YtcghikpogkigcaaGreatDoor
