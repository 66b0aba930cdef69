/- The interpreter's steps, one at a time, for runs that turn on what is not known. -/
import Derived.Test.YtainaihfbljjoaaGreatDoorAbEval
set_option linter.all false
set_option linter.unusedSectionVars false
set_option linter.unusedVariables false
set_option linter.unusedSimpArgs false
namespace Go.Ab
open Go
variable {code : FuncId → Option XFun} {call : Caller} {n : Nat} {a b : XCode} {t t' : Tm} {A A' : H}

def sfst : XCode → XCode
  | .seq a _ => a
  | c => c
def ssnd : XCode → XCode
  | .seq _ b => b
  | c => c
def cthen : XCode → XCode
  | .cond _ a _ => a
  | c => c
def celse : XCode → XCode
  | .cond _ _ b => b
  | c => c
def bodyOf : Option XFun → XFunc
  | some (.body x) => x
  | _ => { ntmps := 0, body := .skip, results := [], late := .skip }

theorem seq_on (h : evalC call n a t A = some (.normal, t', A')) : evalC call (n + 1) (.seq a b) t A = evalC call n b t' A' := by simp [evalC, h]
theorem seq_ret (h : evalC call n a t A = some (.ret, t', A')) : evalC call (n + 1) (.seq a b) t A = some (.ret, t', A') := by simp [evalC, h]
theorem cond_on {c : Operand} {x : Bool} (h : val t c = .bool x) : evalC call (n + 1) (.cond c a b) t A = evalC call n (bif x then a else b) t A := by cases x <;> simp [evalC, h]

def finish (rs : List (Nat × Option (Nat × Bool))) : Option (XExit × Tm × H) → Option (Value × H)
  | some (.exit _, _, _) => none
  | some (_, t, A) => match resultsA A t rs with
    | some vs => some (resultV vs, A)
    | none => none
  | none => none
theorem evalF_body {f : FuncId} {args : List Value} {x : XFunc} (h : code f = some (.body x)) (hl : Nat.ble args.length x.ntmps = true) :
    evalF code (n + 1) f args A = finish x.results (evalC (evalF code n) n x.body (argsT args 0 .nil) A) := by
  rw [evalF, h]
  simp only [hl, cond_true]
  rfl
/-- Where a run came to. -/
def tmOf : Option (XExit × Tm × H) → Tm
  | some (_, t, _) => t
  | none => .nil
def hOf (A : H) : Option (XExit × Tm × H) → H
  | some (_, _, A) => A
  | none => A
def boolOf : Value → Bool
  | .bool b => b
  | _ => false
def isRet : Option (XExit × Tm × H) → Bool
  | some (.ret, _, _) => true
  | _ => false
theorem isRet_some {r : Option (XExit × Tm × H)} (h : isRet r = true) : ∃ t A, r = some (.ret, t, A) := by
  unfold isRet at h
  split at h
  · exact ⟨_, _, rfl⟩
  · cases h
def retTrue (rs : List (Nat × Option (Nat × Bool))) : Option (XExit × Tm × H) → Bool
  | some (.ret, t, A) => match resultsA A t rs with
    | some vs => boolOf (resultV vs)
    | none => false
  | _ => false
theorem retTrue_some {rs : List (Nat × Option (Nat × Bool))} {r : Option (XExit × Tm × H)} (h : retTrue rs r = true) : ∃ t A, r = some (.ret, t, A) := by
  unfold retTrue at h
  split at h
  · exact ⟨_, _, rfl⟩
  · cases h
end Go.Ab
