/- Functions whose answers are told, for the quick interpreter. -/
import Derived.Test.YtainaihfbljjoaaGreatDoorAbK
import Derived.Test.YtainaihfbljjoaaGreatDoorAbNatD
set_option linter.all false
set_option linter.unusedSectionVars false
set_option linter.unusedVariables false
set_option linter.unusedSimpArgs false
namespace Go.Ab
open Go
def noCall : Caller := fun _ _ _ => none
noncomputable def plainK (g : Caller → List Value → H → Option (Value × H)) : KNat := fun _ args A k => optK (g noCall args A) k
def ptr1 (id off : Nat) : Value := .pointer (some ⟨id, off, none⟩)
noncomputable def onceK (lock load store unlock : FuncId) : KNat := fun c args A k => Bool.rec (motive := fun _ => Bool) false
  (nthK 0 args fun p => nthK 1 args fun f => ptrK p fun id off =>
    c lock [ptr1 id (off + 1)] A fun _ A1 => c load [ptr1 id off] A1 fun b A2 => boolK b fun b => Bool.rec (motive := fun _ => Bool)
      (optA (calleeA f []) fun q => c q.1 q.2 A2 fun _ A3 => c store [ptr1 id off, .bool true] A3 fun _ A4 => c unlock [ptr1 id (off + 1)] A4 fun _ A5 => k (.tuple #[]) A5) false b) (Nat.beq args.length 2)
end Go.Ab
