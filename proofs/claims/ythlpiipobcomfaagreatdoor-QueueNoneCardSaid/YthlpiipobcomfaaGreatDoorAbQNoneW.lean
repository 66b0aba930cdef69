/- 'QueueNone' as the interpreter runs it: true, whatever the text and the number. -/
import Derived.Test.YthlpiipobcomfaaGreatDoorAbQBase
import Derived.Test.YthlpiipobcomfaaGreatDoorAbStep
namespace Go.Proofs.YthlpiipobcomfaaGreatDoor.QNone
open Go Go.Ab Go.Proofs
set_option maxRecDepth 1000000

noncomputable def f9 : XFunc := bodyOf (code 9)
theorem code9 : code 9 = some (.body f9) := by kernel_rfl
noncomputable def r0 : XCode := sfst f9.body
noncomputable def r1 : XCode := sfst (ssnd f9.body)
noncomputable def r2 : XCode := sfst (sfst (ssnd (ssnd f9.body)))
noncomputable def rT : XCode := cthen (ssnd (sfst (ssnd (ssnd f9.body))))
noncomputable def rest : XCode := ssnd (ssnd (ssnd f9.body))
theorem body9 : f9.body = .seq r0 (.seq r1 (.seq (.seq r2 (.cond (.tmp 8) rT .skip)) rest)) := by kernel_rfl

noncomputable def A0 : H := tabH tabs
noncomputable def call : Caller := evalF code 3000
noncomputable def T0 (s : ByteArray) (id : Int) : Tm := argsT [.string s, .int .i64 id] 0 .nil
noncomputable def T1 (s : ByteArray) (id : Int) : Tm := tmOf (evalC call 2999 r0 (T0 s id) A0)
noncomputable def T2 (s : ByteArray) (id : Int) : Tm := tmOf (evalC call 2998 r1 (T1 s id) A0)
noncomputable def T3 (s : ByteArray) (id : Int) : Tm := tmOf (evalC call 2996 r2 (T2 s id) A0)
theorem e1 (s : ByteArray) (id : Int) : evalC call 2999 r0 (T0 s id) A0 = some (.normal, T1 s id, A0) := by kernel_rfl
theorem e2 (s : ByteArray) (id : Int) : evalC call 2998 r1 (T1 s id) A0 = some (.normal, T2 s id, A0) := by kernel_rfl
theorem e3 (s : ByteArray) (id : Int) : evalC call 2996 r2 (T2 s id) A0 = some (.normal, T3 s id, A0) := by kernel_rfl
theorem ec (s : ByteArray) (id : Int) : val (T3 s id) (.tmp 8) = .bool (boolOf (val (T3 s id) (.tmp 8))) := by kernel_rfl

theorem skipped (s : ByteArray) (id : Int) : evalC call 2995 .skip (T3 s id) A0 = some (.normal, T3 s id, A0) := by kernel_rfl

theorem runT (s : ByteArray) (id : Int) : retTrue f9.results (evalC call 2995 rT (T3 s id) A0) = true := by kernel_rfl
theorem runF (s : ByteArray) (id : Int) : retTrue f9.results (evalC call 2997 rest (T3 s id) A0) = true := by kernel_rfl

end Go.Proofs.YthlpiipobcomfaaGreatDoor.QNone
