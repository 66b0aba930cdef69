/- The program's code compiled with the types and the functions looked up another way. -/
import Derived.Test.YtainaihfbljjoaaGreatDoorAbFast
set_option linter.all false
set_option linter.unusedSectionVars false
set_option linter.unusedVariables false
set_option linter.unusedSimpArgs false
namespace Go.Ab
open Go

def compCallR (P : Program) (I : TypeId → Option TypeInfo) (F : FuncId → Option Func) (c : Call) : Option XOp :=
  match c.callee with
  | .value (.func f) => match F f with
    | some fn => if fn.body.isSome && fn.name != "runtime.NumGoroutine" then some (.call f c.args.toList) else if fn.body.isNone then (match extKind fn.name with | some kd => some (.ext kd c.args.toList) | none => none) else none
    | none => none
  | .value (.tmp t) => some (.callV (.tmp t) c.args.toList)
  | .value _ => none
  | .builtin b => compBuiltinI P I b c.argTypes c.args.toList
  | .invoke r name => some (.callI (methodOfI P I name) r c.args.toList)
def compOpR (P : Program) (I : TypeId → Option TypeInfo) (F : FuncId → Option Func) (o : Oper) : Option XOp :=
  match o.op with
  | .move x | .assign x => some (.move x)
  | .pick c a b => some (.pick c a b)
  | .alloc e => (zeroAI P I e).map (.alloc e)
  | .box e x => (sizeAI P I e).map fun _ => .box e x
  | .build t ps => (zeroAI P I t).bind fun z => match undI I t with
    | some (.struct _) | some (.array _ _) => (compPartsI P I t ps.toList).map (.build z)
    | _ => none
  | .buildSlice t n ps => match undI I t with
    | some (.slice e) => (sizeAI P I e).bind fun s => (compPartsI P I t ps.toList).bind fun q => (if n * s = 0 then some [] else if n * s > 16777216 then none else (zeroAI P I e).map fun z => zeros z n).map fun z => .buildSlice e n z q
    | _ => none
  | .load t a => (sizeAI P I t).bind fun n => (aggAI P I t).map fun b => .load n b a
  | .store t a x => (sizeAI P I t).map fun n => .store n a x
  | .nilCheck x => some (.nilCheck x)
  | .binOp op xt x y _ => (undI I xt).bind fun d => compBinI P I op xt d x y
  | .unOp op _ x => some (.un op x)
  | .convert s d x => match undI I s, undI I d with
    | some (.int _), some (.int k) => some (.toInt k x)
    | some .string, some .string => some (.same x)
    | some .string, some (.slice e) => match undI I e with
      | some (.int .u8) => bif (sizeAI P I e) == some 1 then some (.toBytes e x) else none
      | _ => none
    | some (.slice e), some .string => match undI I e with
      | some (.int .u8) => some (.ofBytes x)
      | _ => none
    | some (.pointer t), some .unsafePointer => (sizeAI P I t).bind fun n => if n = 0 then none else some (.toUnsafe x)
    | _, _ => none
  | .typeAssert x _ t ok => bif ok then ((I t).bind (·.zero)).bind fun z => bif (cellsL z).all flat1 then (undI I t).map fun | .interface _ => .assert none z x | _ => .assert (some t) z x else none else none
  | .makeInterface t x => match undI I t with
    | some (.interface _) | none => none
    | _ => some (.makeIface t x)
  | .makeFunc fn first cap => some (.makeFunc fn first.toList cap.toList)
  | .makeMap _ r => if r.isNone then some .makeMap else none
  | .makeSlice t l c => match undI I t with
    | some (.slice e) => (I e).bind fun i => (zeroAI P I e).map fun z => .makeSlice e i.bytes i.size z l c
    | _ => none
  | .slice t x lo hi mx => match undI I t with
    | some .string => if mx.isNone then some (.sliceStr x lo hi) else none
    | some (.slice e) => bif mx.isSome && hi.isNone then none else (sizeAI P I e).map fun s => .slice e s none x lo hi mx
    | some (.array n e) => bif mx.isSome && hi.isNone then none else (sizeAI P I e).map fun s => .slice e s (some n) x lo hi mx
    | _ => none
  | .fieldAddr s x f => match undI I s with
    | some (.struct fs) => (fs[f]?).bind fun fl => (sizeAI P I fl.type).bind fun n => if n = 0 then none else some (.fieldAddr fl.offset x)
    | _ => none
  | .field t x f => match undI I t with
    | some (.struct fs) => (fs[f]?).bind fun fl => (sizeAI P I fl.type).bind fun n => (aggAI P I fl.type).map fun b => .field fl.offset n b x
    | _ => none
  | .indexAddr t x i => match undI I t with
    | some (.array n e) => (sizeAI P I e).map fun s => .indexAddr (some n) s x i
    | some (.slice e) => (sizeAI P I e).map fun s => .indexAddr none s x i
    | _ => none
  | .index t x i => match undI I t with
    | some (.array n e) => (sizeAI P I e).bind fun s => (aggAI P I e).map fun b => .index (some (n, s, b)) x i
    | some .string => some (.index none x i)
    | _ => none
  | .lookup t m k ok => match undI I t with
    | some (.map kt e) => (keyKindI P I kt).bind fun d => ((I e).bind (·.zero)).bind fun z => bif (cellsL z).all flat1 then some (.lookup d z m k ok) else none
    | _ => none
  | .mapUpdate t m k x | .insert t m k x => match undI I t with
    | some (.map kt _) => (keyKindI P I kt).map fun d => .mapPut d m k x
    | _ => none
  | .range t x => match undI I t with
    | some .string => some (.rangeStr x)
    | _ => none
  | .next x b => bif b then some (.nextStr x) else none
  | .extract x i => some (.extract x i)
  | .call c => compCallR P I F c
  | _ => none
def compOperR (P : Program) (I : TypeId → Option TypeInfo) (F : FuncId → Option Func) (nt : Nat) (ops : Array Oper) (o : Oper) : XOper :=
  match compOpR P I F o, compGuard ops o.guard with
  | some x, some g => bif o.op.operands.toList.all (okOperand P nt) && okDst nt o.dst && okDst nt (g.map (·.1)) then { dst := o.dst, guard := g, op := x } else { dst := none, guard := none, op := .bad o.pos }
  | _, _ => { dst := none, guard := none, op := .bad o.pos }
def compDrawR (P : Program) (I : TypeId → Option TypeInfo) (F : FuncId → Option Func) (nt : Nat) (ops : Array Oper) : XCode :=
  let l := ops.toList
  let xs := l.map (compOperR P I F nt ops)
  let es := l.map edgeBits
  let bs := aheads [] l
  let c := orderA es xs l.length 0
  let dsts := l.map (·.dst)
  let slots := l.map (slotsA ops)
  bif okOrder es xs 0 c && okPairs dsts slots bs l.length && okLooks xs dsts slots bs l.length then .draw (stepsA bs xs 0 c) else .bad "draw"
def compCR (P : Program) (I : TypeId → Option TypeInfo) (F : FuncId → Option Func) (nt : Nat) : Code → XCode
  | .skip | .label _ => .skip
  | .region _ ops draw => bif draw then compDrawR P I F nt ops else .ops (ops.toList.map (compOperR P I F nt ops))
  | .seq a b => .seq (compCR P I F nt a) (compCR P I F nt b)
  | .cond c a b => bif okOperand P nt c then .cond c (compCR P I F nt a) (compCR P I F nt b) else .bad "cond"
  | .block id b => .block id (compCR P I F nt b)
  | .loop b => .loop (compCR P I F nt b)
  | .exit id => .exit id
  | .ret => .ret
  | .scope _ => .bad "scope"
  | .rangeFunc .. => .bad "rangeFunc"
  | .goto _ => .bad "goto"
  | .refuse w => .bad w
def compOperDR (P : Program) (I : TypeId → Option TypeInfo) (F : FuncId → Option Func) (nt : Nat) (ops : Array Oper) (o : Oper) : XOper := match o.op, o.guard with
  | .call c, none => match c.callee, c.args.toList with
    | .builtin .recover, [] => bif okDst nt o.dst then { dst := o.dst, guard := none, op := .move (.const .nilIface) } else compOperR P I F nt ops o
    | _, _ => compOperR P I F nt ops o
  | _, _ => compOperR P I F nt ops o
def compLateR (P : Program) (I : TypeId → Option TypeInfo) (F : FuncId → Option Func) (nt : Nat) : Code → XCode
  | .region _ ops false => .ops (ops.toList.map (compOperDR P I F nt ops))
  | .seq a b => .seq (compLateR P I F nt a) (compCR P I F nt b)
  | _ => .bad "late"
def splitRR (P : Program) (I : TypeId → Option TypeInfo) (F : FuncId → Option Func) (nt : Nat) (ops : Array Oper) : Option (XCode × Operand × List Operand) := match ops.toList.getLast? with
  | some o => match o.op, o.guard, o.dst with
    | .defer c, none, none => match c.callee with
      | .value f => bif okOperand P nt f && c.args.toList.all (okOperand P nt) then some (.ops (ops.toList.dropLast.map (compOperR P I F nt ops)), f, c.args.toList) else none
      | _ => none
    | _, _, _ => none
  | none => none
def splitDR (P : Program) (I : TypeId → Option TypeInfo) (F : FuncId → Option Func) (nt : Nat) : Code → Option (XCode × Operand × List Operand × XCode)
  | .seq (.region id ops false) b => match splitRR P I F nt ops with
    | some (x, f, das) => some (x, f, das, compCR P I F nt b)
    | none => (splitDR P I F nt b).map fun r => (.seq (compCR P I F nt (.region id ops false)) r.1, r.2)
  | _ => none
def compFR (P : Program) (I : TypeId → Option TypeInfo) (F : FuncId → Option Func) (f : FuncId) : Option XFun :=
  (F f).bind fun fn => bif fn.name == "runtime.NumGoroutine" then none else fn.body.bind fun c => (compResI P I fn.ntmps fn.results.toList).map fun r => match splitDR P I F fn.ntmps c with
    | some (x, f, das, y) => .dbody fn.ntmps r x f das y
    | none => .body { ntmps := fn.ntmps, body := compCR P I F fn.ntmps c, results := r, late := compLateR P I F fn.ntmps c }


theorem compCallR_same (P : Program) : compCallR P P.info? (fun f => P.funcs[f]?) = compCall P := by kernel_rfl
theorem compOpR_same (P : Program) : compOpR P P.info? (fun f => P.funcs[f]?) = compOp P := by kernel_rfl
theorem compOperR_same (P : Program) : compOperR P P.info? (fun f => P.funcs[f]?) = compOper P := by kernel_rfl
theorem compDrawR_same (P : Program) : compDrawR P P.info? (fun f => P.funcs[f]?) = compDraw P := by kernel_rfl
theorem compCR_same (P : Program) : compCR P P.info? (fun f => P.funcs[f]?) = compC P := by kernel_rfl
theorem compOperDR_same (P : Program) : compOperDR P P.info? (fun f => P.funcs[f]?) = compOperD P := by kernel_rfl
theorem compLateR_same (P : Program) : compLateR P P.info? (fun f => P.funcs[f]?) = compLate P := by kernel_rfl
theorem splitRR_same (P : Program) : splitRR P P.info? (fun f => P.funcs[f]?) = splitR P := by kernel_rfl
theorem splitDR_same (P : Program) : splitDR P P.info? (fun f => P.funcs[f]?) = splitD P := by kernel_rfl
theorem compFR_same (P : Program) : compFR P P.info? (fun f => P.funcs[f]?) = compF P := by kernel_rfl
/-- The functions, out of a tree. -/
noncomputable def treeF (P : Program) (T : Tr Func) : FuncId → Option Func := fun t => Option.rec (motive := fun _ => Option Func) (P.funcs[t]?) (fun i => some i) (getP (pathOf t) T)
theorem treeF_eq {P : Program} {n : Nat} (h : Nat.ble P.funcs.size n = true) {T : Tr Func} (hT : T = mkT n P.funcs.toList) : treeF P T = fun f => P.funcs[f]? := by
  funext t
  unfold treeF
  rw [getP_eq, hT, mkT_get n _ (by simpa using Nat.le_of_ble_eq_true h)]
  simp only [Array.getElem?_toList]
  cases hg : P.funcs[t]? with
  | none => rfl
  | some i => rfl
theorem compFR_eq {P : Program} {I : TypeId → Option TypeInfo} {F : FuncId → Option Func} (hI : I = P.info?) (hF : F = fun f => P.funcs[f]?) : compFR P I F = compF P := by rw [hI, hF]; exact compFR_same P
theorem comp_no_nat {P : Program} {f : FuncId} {g : Caller → List Value → H → Option (Value × H)} : compF P f ≠ some (.nat g) := by
  intro h
  unfold compF at h
  rw [Option.bind_eq_some_iff] at h
  obtain ⟨fn, _, h⟩ := h
  cases hn : (fn.name == "runtime.NumGoroutine") with
  | true => rw [hn] at h; cases h
  | false =>
    rw [hn] at h
    simp only [cond_false, Option.bind_eq_some_iff, Option.map_eq_some_iff] at h
    obtain ⟨c, _, r, _, h⟩ := h
    split at h <;> cases h
end Go.Ab
