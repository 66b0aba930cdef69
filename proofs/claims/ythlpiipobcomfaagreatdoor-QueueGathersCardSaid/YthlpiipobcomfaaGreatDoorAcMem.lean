/- The program's code compiled with the types looked up another way. -/
/- The program's code compiled with the types and the functions looked up another way. -/
/- Functions whose answers other texts tell; and a remainder of an unknown number. -/
/- Texts as numbers; values' keys. -/
/- Answers told ahead: what a function says to plain arguments, run by itself, once. -/
/- What unknown values stand for, made of some bytes and others. -/
import Derived.Test.YthlpiipobcomfaaGreatDoorAcK
import Derived.KernelRfl
import Derived.Test.YthlpiipobcomfaaGreatDoorAcTab
import Derived.Test.YthlpiipobcomfaaGreatDoorAcEval
import Derived.Test.YthlpiipobcomfaaGreatDoorAcRel
set_option linter.all false
set_option linter.unusedSectionVars false
set_option linter.unusedVariables false
set_option linter.unusedSimpArgs false
namespace Go.Ab
open Go

def undI (I : TypeId → Option TypeInfo) (t : TypeId) : Option TypeDesc :=
  match I t with
  | some { desc := .named _ u, .. } => (I u).map (·.desc)
  | some i => some i.desc
  | none => none
def fieldKindsI (P : Program) (I : TypeId → Option TypeInfo) : List Field → Option (List (Nat × TypeDesc))
  | [] => some []
  | f :: fs => bif f.name == "_" then none else (undI I f.type).bind fun d => bif scalarKey d then (fieldKindsI P I fs).map ((f.offset, d) :: ·) else none
def keyKindI (P : Program) (I : TypeId → Option TypeInfo) (t : TypeId) : Option KKind := match undI I t with
  | some (.struct fs) => bif P.stoodInHeld t then none else (fieldKindsI P I fs.toList).map .many
  | some d => bif scalarKey d then some (.one d) else none
  | none => none
/-! ### From the program's code -/
def sizeAI (P : Program) (I : TypeId → Option TypeInfo) (t : TypeId) : Option Nat := (I t).map (·.size)
def aggAI (P : Program) (I : TypeId → Option TypeInfo) (t : TypeId) : Option Bool := (undI I t).map fun | .struct _ | .array _ _ => true | _ => false
def zeroAI (P : Program) (I : TypeId → Option TypeInfo) (t : TypeId) : Option (List Value) := (I t).bind fun i => i.zero.bind fun z => bif (cellsL z).all flat1 && Nat.beq (cellsL z).length i.size then some (cellsL z) else none
def placesAI (P : Program) (I : TypeId → Option TypeInfo) : List Field → Option (List (Nat × Nat))
  | [] => some []
  | f :: fs => (sizeAI P I f.type).bind fun n => (placesAI P I fs).map fun r => (f.offset, n) :: r
def compPartsI (P : Program) (I : TypeId → Option TypeInfo) (t : TypeId) (ps : List (Nat × Operand)) : Option (List (Nat × Nat × Operand)) :=
  match undI I t with
  | some (.struct fs) => (placesAI P I fs.toList).bind fun pl => partsA (pl[·]?) ps
  | some (.array _ e) => (sizeAI P I e).bind fun n => partsA (fun i => some (i * n, n)) ps
  | some (.slice e) => (sizeAI P I e).bind fun n => partsA (fun i => some (i * n, n)) ps
  | _ => none
def compBuiltinI (P : Program) (I : TypeId → Option TypeInfo) (b : Builtin) (ts : Array TypeId) (xs : List Operand) : Option XOp :=
  match b with
  | .len => match ts[0]?, xs with
    | some t, [x] => match undI I t with
      | some .string => some (.lenStr x)
      | some (.slice _) => some (.len none x)
      | some (.array n _) => some (.len (some n) x)
      | some (.pointer a) => match undI I a with
        | some (.array n _) => some (.len (some n) x)
        | _ => none
      | _ => none
    | _, _ => none
  | .append => match ts[0]?, ts[1]?, xs with
    | some t, some u, [s, x] => match undI I t, undI I u with
      | some (.slice e), some (.slice _) | some (.slice e), some .string => (I e).bind fun i => (zeroAI P I e).map fun _ => .append e i.size i.bytes s x
      | _, _ => none
    | _, _, _ => none
  | .copy => match ts[0]?, xs with
    | some t, [s, x] => match undI I t with
      | some (.slice e) => (sizeAI P I e).map fun n => .copy n s x
      | _ => none
    | _, _ => none
  | .clear => match ts[0]?, xs with
    | some t, [x] => match undI I t with
      | some (.slice e) => (zeroAI P I e).map fun z => .clear z x
      | _ => none
    | _, _ => none
  | .delete => match ts[0]?, xs with
    | some t, [m, k] => match undI I t with
      | some (.map kt _) => (keyKindI P I kt).map fun d => .mapDel d m k
      | _ => none
    | _, _ => none
  | .min => some (.minmax false xs)
  | .max => some (.minmax true xs)
  | _ => none
def methodOfI (P : Program) (I : TypeId → Option TypeInfo) (name : String) (t : TypeId) : Option FuncId := (I t).bind fun i => (i.methods.find? (·.name == name)).bind fun m => match m.path.toList, m.func, undI I t with
  | [], some (f, true), some (.pointer _) => some f
  | [], some (f, false), some (.struct _) => some f
  | [], some (f, false), some (.int _) => some f
  | _, _, _ => none
def compCallI (P : Program) (I : TypeId → Option TypeInfo) (c : Call) : Option XOp :=
  match c.callee with
  | .value (.func f) => match P.funcs[f]? with
    | some fn => if fn.body.isSome && fn.name != "runtime.NumGoroutine" then some (.call f c.args.toList) else if fn.body.isNone then (match extKind fn.name with | some kd => some (.ext kd c.args.toList) | none => none) else none
    | none => none
  | .value (.tmp t) => some (.callV (.tmp t) c.args.toList)
  | .value _ => none
  | .builtin b => compBuiltinI P I b c.argTypes c.args.toList
  | .invoke r name => some (.callI (methodOfI P I name) r c.args.toList)
def compBinI (P : Program) (I : TypeId → Option TypeInfo) (op : BinOp) (xt : TypeId) (d : TypeDesc) (x y : Operand) : Option XOp := match op, d with
  | .eql, .interface _ => bif isNilC y then some (.isNil false x y) else none
  | .neq, .interface _ => bif isNilC y then some (.isNil true x y) else none
  | .eql, .struct _ => match keyKindI P I xt with
    | some (.many l) => bif P.eqGuardType P.depth xt then none else some (.eqS false l x y)
    | _ => none
  | .neq, .struct _ => match keyKindI P I xt with
    | some (.many l) => bif P.eqGuardType P.depth xt then none else some (.eqS true l x y)
    | _ => none
  | op, d => some (.bin op d x y)
def compOpI (P : Program) (I : TypeId → Option TypeInfo) (o : Oper) : Option XOp :=
  match o.op with
  | .move x | .assign x => some (.move x)
  | .pick c a b => some (.pick c a b)
  | .alloc e => (zeroAI P I e).map (.alloc e)
  | .box e x => (sizeAI P I e).map fun _ => .box e x
  | .build t ps => (zeroAI P I t).bind fun z => match undI I t with
    | some (.struct _) | some (.array _ _) => (compPartsI P I t ps.toList).map (.build z)
    | _ => none
  | .buildSlice t n ps => match undI I t with
    | some (.slice e) => (sizeAI P I e).bind fun s => (compPartsI P I t ps.toList).bind fun q => (if n * s = 0 then some [] else if n * s > 16777216 then none else (zeroAI P I e).map fun z => zeros z n).map fun z => .buildSlice e n z q
    | _ => none
  | .load t a => (sizeAI P I t).bind fun n => (aggAI P I t).map fun b => .load n b a
  | .store t a x => (sizeAI P I t).map fun n => .store n a x
  | .nilCheck x => some (.nilCheck x)
  | .binOp op xt x y _ => (undI I xt).bind fun d => compBinI P I op xt d x y
  | .unOp op _ x => some (.un op x)
  | .convert s d x => match undI I s, undI I d with
    | some (.int _), some (.int k) => some (.toInt k x)
    | some .string, some .string => some (.same x)
    | some .string, some (.slice e) => match undI I e with
      | some (.int .u8) => bif (sizeAI P I e) == some 1 then some (.toBytes e x) else none
      | _ => none
    | some (.slice e), some .string => match undI I e with
      | some (.int .u8) => some (.ofBytes x)
      | _ => none
    | some (.pointer t), some .unsafePointer => (sizeAI P I t).bind fun n => if n = 0 then none else some (.toUnsafe x)
    | _, _ => none
  | .typeAssert x _ t ok => bif ok then ((I t).bind (·.zero)).bind fun z => bif (cellsL z).all flat1 then (undI I t).map fun | .interface _ => .assert none z x | _ => .assert (some t) z x else none else none
  | .makeInterface t x => match undI I t with
    | some (.interface _) | none => none
    | _ => some (.makeIface t x)
  | .makeFunc fn first cap => some (.makeFunc fn first.toList cap.toList)
  | .makeMap _ r => if r.isNone then some .makeMap else none
  | .makeSlice t l c => match undI I t with
    | some (.slice e) => (I e).bind fun i => (zeroAI P I e).map fun z => .makeSlice e i.bytes i.size z l c
    | _ => none
  | .slice t x lo hi mx => match undI I t with
    | some .string => if mx.isNone then some (.sliceStr x lo hi) else none
    | some (.slice e) => bif mx.isSome && hi.isNone then none else (sizeAI P I e).map fun s => .slice e s none x lo hi mx
    | some (.array n e) => bif mx.isSome && hi.isNone then none else (sizeAI P I e).map fun s => .slice e s (some n) x lo hi mx
    | _ => none
  | .fieldAddr s x f => match undI I s with
    | some (.struct fs) => (fs[f]?).bind fun fl => (sizeAI P I fl.type).bind fun n => if n = 0 then none else some (.fieldAddr fl.offset x)
    | _ => none
  | .field t x f => match undI I t with
    | some (.struct fs) => (fs[f]?).bind fun fl => (sizeAI P I fl.type).bind fun n => (aggAI P I fl.type).map fun b => .field fl.offset n b x
    | _ => none
  | .indexAddr t x i => match undI I t with
    | some (.array n e) => (sizeAI P I e).map fun s => .indexAddr (some n) s x i
    | some (.slice e) => (sizeAI P I e).map fun s => .indexAddr none s x i
    | _ => none
  | .index t x i => match undI I t with
    | some (.array n e) => (sizeAI P I e).bind fun s => (aggAI P I e).map fun b => .index (some (n, s, b)) x i
    | some .string => some (.index none x i)
    | _ => none
  | .lookup t m k ok => match undI I t with
    | some (.map kt e) => (keyKindI P I kt).bind fun d => ((I e).bind (·.zero)).bind fun z => bif (cellsL z).all flat1 then some (.lookup d z m k ok) else none
    | _ => none
  | .mapUpdate t m k x | .insert t m k x => match undI I t with
    | some (.map kt _) => (keyKindI P I kt).map fun d => .mapPut d m k x
    | _ => none
  | .range t x => match undI I t with
    | some .string => some (.rangeStr x)
    | _ => none
  | .next x b => bif b then some (.nextStr x) else none
  | .extract x i => some (.extract x i)
  | .call c => compCallI P I c
  | _ => none
def compOperI (P : Program) (I : TypeId → Option TypeInfo) (nt : Nat) (ops : Array Oper) (o : Oper) : XOper :=
  match compOpI P I o, compGuard ops o.guard with
  | some x, some g => bif o.op.operands.toList.all (okOperand P nt) && okDst nt o.dst && okDst nt (g.map (·.1)) then { dst := o.dst, guard := g, op := x } else { dst := none, guard := none, op := .bad o.pos }
  | _, _ => { dst := none, guard := none, op := .bad o.pos }
def compDrawI (P : Program) (I : TypeId → Option TypeInfo) (nt : Nat) (ops : Array Oper) : XCode :=
  let l := ops.toList
  let xs := l.map (compOperI P I nt ops)
  let es := l.map edgeBits
  let bs := aheads [] l
  let c := orderA es xs l.length 0
  let dsts := l.map (·.dst)
  let slots := l.map (slotsA ops)
  bif okOrder es xs 0 c && okPairs dsts slots bs l.length && okLooks xs dsts slots bs l.length then .draw (stepsA bs xs 0 c) else .bad "draw"
def compCI (P : Program) (I : TypeId → Option TypeInfo) (nt : Nat) : Code → XCode
  | .skip | .label _ => .skip
  | .region _ ops draw => bif draw then compDrawI P I nt ops else .ops (ops.toList.map (compOperI P I nt ops))
  | .seq a b => .seq (compCI P I nt a) (compCI P I nt b)
  | .cond c a b => bif okOperand P nt c then .cond c (compCI P I nt a) (compCI P I nt b) else .bad "cond"
  | .block id b => .block id (compCI P I nt b)
  | .loop b => .loop (compCI P I nt b)
  | .exit id => .exit id
  | .ret => .ret
  | .scope _ => .bad "scope"
  | .rangeFunc .. => .bad "rangeFunc"
  | .goto _ => .bad "goto"
  | .refuse w => .bad w
def compOperDI (P : Program) (I : TypeId → Option TypeInfo) (nt : Nat) (ops : Array Oper) (o : Oper) : XOper := match o.op, o.guard with
  | .call c, none => match c.callee, c.args.toList with
    | .builtin .recover, [] => bif okDst nt o.dst then { dst := o.dst, guard := none, op := .move (.const .nilIface) } else compOperI P I nt ops o
    | _, _ => compOperI P I nt ops o
  | _, _ => compOperI P I nt ops o
def compLateI (P : Program) (I : TypeId → Option TypeInfo) (nt : Nat) : Code → XCode
  | .region _ ops false => .ops (ops.toList.map (compOperDI P I nt ops))
  | .seq a b => .seq (compLateI P I nt a) (compCI P I nt b)
  | _ => .bad "late"
def splitRI (P : Program) (I : TypeId → Option TypeInfo) (nt : Nat) (ops : Array Oper) : Option (XCode × Operand × List Operand) := match ops.toList.getLast? with
  | some o => match o.op, o.guard, o.dst with
    | .defer c, none, none => match c.callee with
      | .value f => bif okOperand P nt f && c.args.toList.all (okOperand P nt) then some (.ops (ops.toList.dropLast.map (compOperI P I nt ops)), f, c.args.toList) else none
      | _ => none
    | _, _, _ => none
  | none => none
def splitDI (P : Program) (I : TypeId → Option TypeInfo) (nt : Nat) : Code → Option (XCode × Operand × List Operand × XCode)
  | .seq (.region id ops false) b => match splitRI P I nt ops with
    | some (x, f, das) => some (x, f, das, compCI P I nt b)
    | none => (splitDI P I nt b).map fun r => (.seq (compCI P I nt (.region id ops false)) r.1, r.2)
  | _ => none
def compResI (P : Program) (I : TypeId → Option TypeInfo) (nt : Nat) : List ResultVar → Option (List (Nat × Option (Nat × Bool)))
  | [] => some []
  | .tmp t :: r => bif Nat.blt t nt then (compResI P I nt r).map ((t, none) :: ·) else none
  | .cell a t :: r => bif Nat.blt a nt then (sizeAI P I t).bind fun n => (aggAI P I t).bind fun b => (compResI P I nt r).map ((a, some (n, b)) :: ·) else none
def compFI (P : Program) (I : TypeId → Option TypeInfo) (f : FuncId) : Option XFun :=
  (P.funcs[f]?).bind fun fn => bif fn.name == "runtime.NumGoroutine" then none else fn.body.bind fun c => (compResI P I fn.ntmps fn.results.toList).map fun r => match splitDI P I fn.ntmps c with
    | some (x, f, das, y) => .dbody fn.ntmps r x f das y
    | none => .body { ntmps := fn.ntmps, body := compCI P I fn.ntmps c, results := r, late := compLateI P I fn.ntmps c }

theorem und_eq (P : Program) : undI P.info? = P.underlying := rfl
theorem fieldKinds_same (P : Program) : fieldKindsI P P.info? = fieldKinds P := by kernel_rfl
theorem keyKind_same (P : Program) : keyKindI P P.info? = keyKind P := by kernel_rfl
theorem sizeA_same (P : Program) : sizeAI P P.info? = sizeA P := by kernel_rfl
theorem aggA_same (P : Program) : aggAI P P.info? = aggA P := by kernel_rfl
theorem zeroA_same (P : Program) : zeroAI P P.info? = zeroA P := by kernel_rfl
theorem placesA_same (P : Program) : placesAI P P.info? = placesA P := by kernel_rfl
theorem compParts_same (P : Program) : compPartsI P P.info? = compParts P := by kernel_rfl
theorem compBuiltin_same (P : Program) : compBuiltinI P P.info? = compBuiltin P := by kernel_rfl
theorem methodOf_same (P : Program) : methodOfI P P.info? = methodOf P := by kernel_rfl
theorem compCall_same (P : Program) : compCallI P P.info? = compCall P := by kernel_rfl
theorem compBin_same (P : Program) : compBinI P P.info? = compBin P := by kernel_rfl
theorem compOp_same (P : Program) : compOpI P P.info? = compOp P := by kernel_rfl
theorem compOper_same (P : Program) : compOperI P P.info? = compOper P := by kernel_rfl
theorem compDraw_same (P : Program) : compDrawI P P.info? = compDraw P := by kernel_rfl
theorem compC_same (P : Program) : compCI P P.info? = compC P := by kernel_rfl
theorem compOperD_same (P : Program) : compOperDI P P.info? = compOperD P := by kernel_rfl
theorem compLate_same (P : Program) : compLateI P P.info? = compLate P := by kernel_rfl
theorem splitR_same (P : Program) : splitRI P P.info? = splitR P := by kernel_rfl
theorem splitD_same (P : Program) : splitDI P P.info? = splitD P := by kernel_rfl
theorem compRes_same (P : Program) : compResI P P.info? = compRes P := by kernel_rfl
theorem compF_same (P : Program) : compFI P P.info? = compF P := by kernel_rfl

/-! ### A list as a tree -/
section
variable {α : Type}
def odds : List α → List α
  | a :: _ :: r => a :: odds r
  | l => l
def evens : List α → List α
  | _ :: b :: r => b :: evens r
  | _ => []
theorem odds_get : ∀ (l : List α) (j : Nat), (odds l)[j]? = l[2 * j]?
  | [], j => by simp [odds]
  | [a], j => by cases j <;> simp [odds]
  | a :: b :: r, j => by
    cases j with
    | zero => simp [odds]
    | succ j =>
      have := odds_get r j
      simp only [odds, List.getElem?_cons_succ, this]
      rw [show 2 * (j + 1) = 2 * j + 1 + 1 by omega, List.getElem?_cons_succ, List.getElem?_cons_succ]
theorem evens_get : ∀ (l : List α) (j : Nat), (evens l)[j]? = l[2 * j + 1]?
  | [], j => by simp [evens]
  | [a], j => by simp [evens]
  | a :: b :: r, j => by
    cases j with
    | zero => simp [evens]
    | succ j =>
      have := evens_get r j
      simp only [evens, List.getElem?_cons_succ, this]
      rw [show 2 * (j + 1) = 2 * j + 1 + 1 by omega, List.getElem?_cons_succ]
theorem odds_len : ∀ (l : List α), (odds l).length ≤ l.length
  | [] => by simp [odds]
  | [a] => by simp [odds]
  | a :: b :: r => by have := odds_len r; simp [odds]; omega
theorem evens_len : ∀ (l : List α), (evens l).length ≤ l.length
  | [] => by simp [evens]
  | [a] => by simp [evens]
  | a :: b :: r => by have := evens_len r; simp [evens]; omega
noncomputable def mkT (n : Nat) : List α → Tr α :=
  Nat.rec (motive := fun _ => List α → Tr α) (fun _ => .nil) (fun _ ih l => List.rec (motive := fun _ => Tr α) .nil (fun x r _ => .node (some x) (ih (odds r)) (ih (evens r))) l) n
theorem mkT_get : ∀ (n : Nat) (l : List α), l.length ≤ n → ∀ k, (mkT n l).get k = l[k]? := by
  intro n
  induction n with
  | zero => intro l h k; have : l = [] := List.eq_nil_of_length_eq_zero (by omega); subst this; rfl
  | succ n ih =>
    intro l h k
    cases l with
    | nil => rfl
    | cons x r =>
      simp only [List.length_cons] at h
      have ho := ih (odds r) (Nat.le_trans (odds_len r) (by omega))
      have he := ih (evens r) (Nat.le_trans (evens_len r) (by omega))
      show (Tr.node (some x) (mkT n (odds r)) (mkT n (evens r))).get k = _
      unfold Tr.get
      cases h0 : Nat.beq k 0 with
      | true => have := Nat.eq_of_beq_eq_true h0; subst this; rfl
      | false =>
        have hk := Nat.ne_of_beq_eq_false h0
        have d1 : Nat.div k 2 = k / 2 := rfl
        have d2 : Nat.sub (Nat.div k 2) 1 = k / 2 - 1 := rfl
        obtain ⟨j, rfl⟩ : ∃ j, k = j + 1 := ⟨k - 1, by omega⟩
        simp only [cond_false, List.getElem?_cons_succ]
        cases h1 : Nat.beq (Nat.mod (j + 1) 2) 1 with
        | true =>
          have hm : (j + 1) % 2 = 1 := Nat.eq_of_beq_eq_true h1
          simp only [cond_true, ho, odds_get]
          rw [show (j + 1).div 2 = (j + 1) / 2 from rfl]
          congr 1
          omega
        | false =>
          have hm : (j + 1) % 2 ≠ 1 := Nat.ne_of_beq_eq_false h1
          simp only [cond_false, he, evens_get]
          rw [show (Nat.sub ((j + 1).div 2) 1) = (j + 1) / 2 - 1 from rfl]
          congr 1
          omega
end
/-- The types, out of a tree. -/
noncomputable def treeI (P : Program) (T : Tr TypeInfo) : TypeId → Option TypeInfo := fun t => Option.rec (motive := fun _ => Option TypeInfo) (P.info? t) (fun i => some i) (getP (pathOf t) T)
theorem treeI_eq {P : Program} {n : Nat} (h : Nat.ble P.types.size n = true) {T : Tr TypeInfo} (hT : T = mkT n P.types.toList) : treeI P T = P.info? := by
  funext t
  unfold treeI
  rw [getP_eq, hT, mkT_get n _ (by simpa using Nat.le_of_ble_eq_true h)]
  simp only [Array.getElem?_toList]
  cases hg : P.types[t]? with
  | none => rfl
  | some i =>
    have hlt : t < P.types.size := (Array.getElem?_eq_some_iff.1 hg).1
    simp only [Tables.info?]
    rw [if_pos hlt]
    exact hg.symm
theorem compFI_eq {P : Program} {I : TypeId → Option TypeInfo} (h : I = P.info?) : compFI P I = compF P := by rw [h]; exact compF_same P
end Go.Ab
namespace Go.Ab
open Go

def compCallR (P : Program) (I : TypeId → Option TypeInfo) (F : FuncId → Option Func) (c : Call) : Option XOp :=
  match c.callee with
  | .value (.func f) => match F f with
    | some fn => if fn.body.isSome && fn.name != "runtime.NumGoroutine" then some (.call f c.args.toList) else if fn.body.isNone then (match extKind fn.name with | some kd => some (.ext kd c.args.toList) | none => none) else none
    | none => none
  | .value (.tmp t) => some (.callV (.tmp t) c.args.toList)
  | .value _ => none
  | .builtin b => compBuiltinI P I b c.argTypes c.args.toList
  | .invoke r name => some (.callI (methodOfI P I name) r c.args.toList)
def compOpR (P : Program) (I : TypeId → Option TypeInfo) (F : FuncId → Option Func) (o : Oper) : Option XOp :=
  match o.op with
  | .move x | .assign x => some (.move x)
  | .pick c a b => some (.pick c a b)
  | .alloc e => (zeroAI P I e).map (.alloc e)
  | .box e x => (sizeAI P I e).map fun _ => .box e x
  | .build t ps => (zeroAI P I t).bind fun z => match undI I t with
    | some (.struct _) | some (.array _ _) => (compPartsI P I t ps.toList).map (.build z)
    | _ => none
  | .buildSlice t n ps => match undI I t with
    | some (.slice e) => (sizeAI P I e).bind fun s => (compPartsI P I t ps.toList).bind fun q => (if n * s = 0 then some [] else if n * s > 16777216 then none else (zeroAI P I e).map fun z => zeros z n).map fun z => .buildSlice e n z q
    | _ => none
  | .load t a => (sizeAI P I t).bind fun n => (aggAI P I t).map fun b => .load n b a
  | .store t a x => (sizeAI P I t).map fun n => .store n a x
  | .nilCheck x => some (.nilCheck x)
  | .binOp op xt x y _ => (undI I xt).bind fun d => compBinI P I op xt d x y
  | .unOp op _ x => some (.un op x)
  | .convert s d x => match undI I s, undI I d with
    | some (.int _), some (.int k) => some (.toInt k x)
    | some .string, some .string => some (.same x)
    | some .string, some (.slice e) => match undI I e with
      | some (.int .u8) => bif (sizeAI P I e) == some 1 then some (.toBytes e x) else none
      | _ => none
    | some (.slice e), some .string => match undI I e with
      | some (.int .u8) => some (.ofBytes x)
      | _ => none
    | some (.pointer t), some .unsafePointer => (sizeAI P I t).bind fun n => if n = 0 then none else some (.toUnsafe x)
    | _, _ => none
  | .typeAssert x _ t ok => bif ok then ((I t).bind (·.zero)).bind fun z => bif (cellsL z).all flat1 then (undI I t).map fun | .interface _ => .assert none z x | _ => .assert (some t) z x else none else none
  | .makeInterface t x => match undI I t with
    | some (.interface _) | none => none
    | _ => some (.makeIface t x)
  | .makeFunc fn first cap => some (.makeFunc fn first.toList cap.toList)
  | .makeMap _ r => if r.isNone then some .makeMap else none
  | .makeSlice t l c => match undI I t with
    | some (.slice e) => (I e).bind fun i => (zeroAI P I e).map fun z => .makeSlice e i.bytes i.size z l c
    | _ => none
  | .slice t x lo hi mx => match undI I t with
    | some .string => if mx.isNone then some (.sliceStr x lo hi) else none
    | some (.slice e) => bif mx.isSome && hi.isNone then none else (sizeAI P I e).map fun s => .slice e s none x lo hi mx
    | some (.array n e) => bif mx.isSome && hi.isNone then none else (sizeAI P I e).map fun s => .slice e s (some n) x lo hi mx
    | _ => none
  | .fieldAddr s x f => match undI I s with
    | some (.struct fs) => (fs[f]?).bind fun fl => (sizeAI P I fl.type).bind fun n => if n = 0 then none else some (.fieldAddr fl.offset x)
    | _ => none
  | .field t x f => match undI I t with
    | some (.struct fs) => (fs[f]?).bind fun fl => (sizeAI P I fl.type).bind fun n => (aggAI P I fl.type).map fun b => .field fl.offset n b x
    | _ => none
  | .indexAddr t x i => match undI I t with
    | some (.array n e) => (sizeAI P I e).map fun s => .indexAddr (some n) s x i
    | some (.slice e) => (sizeAI P I e).map fun s => .indexAddr none s x i
    | _ => none
  | .index t x i => match undI I t with
    | some (.array n e) => (sizeAI P I e).bind fun s => (aggAI P I e).map fun b => .index (some (n, s, b)) x i
    | some .string => some (.index none x i)
    | _ => none
  | .lookup t m k ok => match undI I t with
    | some (.map kt e) => (keyKindI P I kt).bind fun d => ((I e).bind (·.zero)).bind fun z => bif (cellsL z).all flat1 then some (.lookup d z m k ok) else none
    | _ => none
  | .mapUpdate t m k x | .insert t m k x => match undI I t with
    | some (.map kt _) => (keyKindI P I kt).map fun d => .mapPut d m k x
    | _ => none
  | .range t x => match undI I t with
    | some .string => some (.rangeStr x)
    | _ => none
  | .next x b => bif b then some (.nextStr x) else none
  | .extract x i => some (.extract x i)
  | .call c => compCallR P I F c
  | _ => none
def compOperR (P : Program) (I : TypeId → Option TypeInfo) (F : FuncId → Option Func) (nt : Nat) (ops : Array Oper) (o : Oper) : XOper :=
  match compOpR P I F o, compGuard ops o.guard with
  | some x, some g => bif o.op.operands.toList.all (okOperand P nt) && okDst nt o.dst && okDst nt (g.map (·.1)) then { dst := o.dst, guard := g, op := x } else { dst := none, guard := none, op := .bad o.pos }
  | _, _ => { dst := none, guard := none, op := .bad o.pos }
def compDrawR (P : Program) (I : TypeId → Option TypeInfo) (F : FuncId → Option Func) (nt : Nat) (ops : Array Oper) : XCode :=
  let l := ops.toList
  let xs := l.map (compOperR P I F nt ops)
  let es := l.map edgeBits
  let bs := aheads [] l
  let c := orderA es xs l.length 0
  let dsts := l.map (·.dst)
  let slots := l.map (slotsA ops)
  bif okOrder es xs 0 c && okPairs dsts slots bs l.length && okLooks xs dsts slots bs l.length then .draw (stepsA bs xs 0 c) else .bad "draw"
def compCR (P : Program) (I : TypeId → Option TypeInfo) (F : FuncId → Option Func) (nt : Nat) : Code → XCode
  | .skip | .label _ => .skip
  | .region _ ops draw => bif draw then compDrawR P I F nt ops else .ops (ops.toList.map (compOperR P I F nt ops))
  | .seq a b => .seq (compCR P I F nt a) (compCR P I F nt b)
  | .cond c a b => bif okOperand P nt c then .cond c (compCR P I F nt a) (compCR P I F nt b) else .bad "cond"
  | .block id b => .block id (compCR P I F nt b)
  | .loop b => .loop (compCR P I F nt b)
  | .exit id => .exit id
  | .ret => .ret
  | .scope _ => .bad "scope"
  | .rangeFunc .. => .bad "rangeFunc"
  | .goto _ => .bad "goto"
  | .refuse w => .bad w
def compOperDR (P : Program) (I : TypeId → Option TypeInfo) (F : FuncId → Option Func) (nt : Nat) (ops : Array Oper) (o : Oper) : XOper := match o.op, o.guard with
  | .call c, none => match c.callee, c.args.toList with
    | .builtin .recover, [] => bif okDst nt o.dst then { dst := o.dst, guard := none, op := .move (.const .nilIface) } else compOperR P I F nt ops o
    | _, _ => compOperR P I F nt ops o
  | _, _ => compOperR P I F nt ops o
def compLateR (P : Program) (I : TypeId → Option TypeInfo) (F : FuncId → Option Func) (nt : Nat) : Code → XCode
  | .region _ ops false => .ops (ops.toList.map (compOperDR P I F nt ops))
  | .seq a b => .seq (compLateR P I F nt a) (compCR P I F nt b)
  | _ => .bad "late"
def splitRR (P : Program) (I : TypeId → Option TypeInfo) (F : FuncId → Option Func) (nt : Nat) (ops : Array Oper) : Option (XCode × Operand × List Operand) := match ops.toList.getLast? with
  | some o => match o.op, o.guard, o.dst with
    | .defer c, none, none => match c.callee with
      | .value f => bif okOperand P nt f && c.args.toList.all (okOperand P nt) then some (.ops (ops.toList.dropLast.map (compOperR P I F nt ops)), f, c.args.toList) else none
      | _ => none
    | _, _, _ => none
  | none => none
def splitDR (P : Program) (I : TypeId → Option TypeInfo) (F : FuncId → Option Func) (nt : Nat) : Code → Option (XCode × Operand × List Operand × XCode)
  | .seq (.region id ops false) b => match splitRR P I F nt ops with
    | some (x, f, das) => some (x, f, das, compCR P I F nt b)
    | none => (splitDR P I F nt b).map fun r => (.seq (compCR P I F nt (.region id ops false)) r.1, r.2)
  | _ => none
def compFR (P : Program) (I : TypeId → Option TypeInfo) (F : FuncId → Option Func) (f : FuncId) : Option XFun :=
  (F f).bind fun fn => bif fn.name == "runtime.NumGoroutine" then none else fn.body.bind fun c => (compResI P I fn.ntmps fn.results.toList).map fun r => match splitDR P I F fn.ntmps c with
    | some (x, f, das, y) => .dbody fn.ntmps r x f das y
    | none => .body { ntmps := fn.ntmps, body := compCR P I F fn.ntmps c, results := r, late := compLateR P I F fn.ntmps c }


theorem compCallR_same (P : Program) : compCallR P P.info? (fun f => P.funcs[f]?) = compCall P := by kernel_rfl
theorem compOpR_same (P : Program) : compOpR P P.info? (fun f => P.funcs[f]?) = compOp P := by kernel_rfl
theorem compOperR_same (P : Program) : compOperR P P.info? (fun f => P.funcs[f]?) = compOper P := by kernel_rfl
theorem compDrawR_same (P : Program) : compDrawR P P.info? (fun f => P.funcs[f]?) = compDraw P := by kernel_rfl
theorem compCR_same (P : Program) : compCR P P.info? (fun f => P.funcs[f]?) = compC P := by kernel_rfl
theorem compOperDR_same (P : Program) : compOperDR P P.info? (fun f => P.funcs[f]?) = compOperD P := by kernel_rfl
theorem compLateR_same (P : Program) : compLateR P P.info? (fun f => P.funcs[f]?) = compLate P := by kernel_rfl
theorem splitRR_same (P : Program) : splitRR P P.info? (fun f => P.funcs[f]?) = splitR P := by kernel_rfl
theorem splitDR_same (P : Program) : splitDR P P.info? (fun f => P.funcs[f]?) = splitD P := by kernel_rfl
theorem compFR_same (P : Program) : compFR P P.info? (fun f => P.funcs[f]?) = compF P := by kernel_rfl
/-- The functions, out of a tree. -/
noncomputable def treeF (P : Program) (T : Tr Func) : FuncId → Option Func := fun t => Option.rec (motive := fun _ => Option Func) (P.funcs[t]?) (fun i => some i) (getP (pathOf t) T)
theorem treeF_eq {P : Program} {n : Nat} (h : Nat.ble P.funcs.size n = true) {T : Tr Func} (hT : T = mkT n P.funcs.toList) : treeF P T = fun f => P.funcs[f]? := by
  funext t
  unfold treeF
  rw [getP_eq, hT, mkT_get n _ (by simpa using Nat.le_of_ble_eq_true h)]
  simp only [Array.getElem?_toList]
  cases hg : P.funcs[t]? with
  | none => rfl
  | some i => rfl
theorem compFR_eq {P : Program} {I : TypeId → Option TypeInfo} {F : FuncId → Option Func} (hI : I = P.info?) (hF : F = fun f => P.funcs[f]?) : compFR P I F = compF P := by rw [hI, hF]; exact compFR_same P
theorem comp_no_nat {P : Program} {f : FuncId} {g : Caller → List Value → H → Option (Value × H)} : compF P f ≠ some (.nat g) := by
  intro h
  unfold compF at h
  rw [Option.bind_eq_some_iff] at h
  obtain ⟨fn, _, h⟩ := h
  cases hn : (fn.name == "runtime.NumGoroutine") with
  | true => rw [hn] at h; cases h
  | false =>
    rw [hn] at h
    simp only [cond_false, Option.bind_eq_some_iff, Option.map_eq_some_iff] at h
    obtain ⟨c, _, r, _, h⟩ := h
    split at h <;> cases h
end Go.Ab
namespace Go.Ab
open Go Go.RowKit

/-- Are two values without addresses alike? -/
def eqv : Value → Value → Bool
  | .bool a, .bool b => a == b
  | .int k a, .int k' b => decide (k = k') && a == b
  | .string a, .string b => bytesOf a == bytesOf b
  | .pointer none, .pointer none => true
  | .slice none l c, .slice none l' c' => Nat.beq l l' && Nat.beq c c'
  | .map none, .map none => true
  | .nilFunc, .nilFunc => true
  | .nilIface, .nilIface => true
  | _, _ => false
theorem eqv_eq {a b : Value} (h : eqv a b = true) : a = b := by
  unfold eqv at h
  split at h
  · simpa using h
  · simpa using h
  · rename_i s t
    have h := eq_of_beq h
    have : s.data = t.data := by
      apply Array.ext'
      exact h
    cases s; cases t; simp_all
  · rfl
  · rw [Bool.and_eq_true] at h
    rw [Nat.eq_of_beq_eq_true h.1, Nat.eq_of_beq_eq_true h.2]
  · rfl
  · rfl
  · rfl
  · cases h
def eqvL : List Value → List Value → Bool
  | [], [] => true
  | a :: l, b :: m => eqv a b && eqvL l m
  | _, _ => false
theorem eqvL_eq : ∀ {a b : List Value}, eqvL a b = true → a = b
  | [], [], _ => rfl
  | a :: l, b :: m, h => by
    rw [eqvL, Bool.and_eq_true] at h
    rw [eqv_eq h.1, eqvL_eq h.2]
/-- Do a heap's blocks, from one on, hold the tables? -/
def tabsIn : OTabs → Nat → H → Bool
  | [], _, _ => true
  | none :: r, i, A => tabsIn r (i + 1) A
  | some x :: r, i, A => (match A.get i with
    | some (.cells true e c) => Nat.beq e x.1 && eqvL c x.2
    | _ => false) && tabsIn r (i + 1) A
theorem tabsIn_get : ∀ {l : OTabs} {i : Nat} {A : H}, tabsIn l i A = true → ∀ j x, l[j]? = some (some x) → A.get (i + j) = some (.cells true x.1 x.2)
  | [], i, A, _, j, x, hj => by simp at hj
  | none :: r, i, A, h, j, x, hj => by
    cases j with
    | zero => simp at hj
    | succ j =>
      have := tabsIn_get (l := r) (i := i + 1) h j x (by simpa using hj)
      rw [← this]
      congr 1
      omega
  | some y :: r, i, A, h, j, x, hj => by
    rw [tabsIn, Bool.and_eq_true] at h
    cases j with
    | zero =>
      simp only [List.getElem?_cons_zero, Option.some.injEq] at hj
      subst hj
      have h := h.1
      split at h
      · rename_i e c hg
        rw [Bool.and_eq_true] at h
        rw [Nat.add_zero, hg, Nat.eq_of_beq_eq_true h.1, eqvL_eq h.2]
      · cases h
    | succ j =>
      have := tabsIn_get (l := r) (i := i + 1) h.2 j x (by simpa using hj)
      rw [← this]
      congr 1
      omega

/-- A function of no argument that answers one value, as long as the tables are as they were. -/
def toldA (tabs : OTabs) (v : Value) : Caller → List Value → H → Option (Value × H)
  | _, [], A => bif tabsIn tabs 0 A then some (v, A) else none
  | _, _, _ => none
theorem toldA_any (tabs : OTabs) (v : Value) (c c' : Caller) (args : List Value) (A : H) : toldA tabs v c args A = toldA tabs v c' args A := by
  unfold toldA; split <;> rfl

def modV (k m : Int) : Int := (k.tmod m + m).tmod m
/-- headgatekeep.Mod: of the unknown number 0 by n, r; of known ones, what it is. -/
def modT (n r : Nat) : Caller → List Value → H → Option (Value × H)
  | _, [.chan (some 0), .int .i64 m], A => if m = (n : Int) then some (.int .i64 r, A) else none
  | _, [.int .i64 k, .int .i64 m], A => if 1 ≤ m ∧ m ≤ 4096 then some (.int .i64 (modV k m), A) else none
  | _, _, _ => none
theorem modT_any (n r : Nat) (c c' : Caller) (args : List Value) (A : H) : modT n r c args A = modT n r c' args A := by
  unfold modT; split <;> rfl

/-- The same of several unknown numbers: (which, by what, what is left). -/
def modGo (i : Nat) (m : Int) : List (Nat × Nat × Nat) → Option Nat
  | [] => none
  | e :: l => bif Nat.beq i e.1 && decide (m = (e.2.1 : Int)) then some e.2.2 else modGo i m l
def modL (l : List (Nat × Nat × Nat)) : Caller → List Value → H → Option (Value × H)
  | _, [.chan (some i), .int .i64 m], A => (modGo i m l).map fun (r : Nat) => (.int .i64 (Int.ofNat r), A)
  | _, [.int .i64 k, .int .i64 m], A => if 1 ≤ m ∧ m ≤ 4096 then some (.int .i64 (modV k m), A) else none
  | _, _, _ => none
theorem modL_any (l : List (Nat × Nat × Nat)) (c c' : Caller) (args : List Value) (A : H) : modL l c args A = modL l c' args A := by
  unfold modL; split <;> rfl
theorem modGo_mem {i : Nat} {m : Int} : ∀ {l : List (Nat × Nat × Nat)} {r : Nat}, modGo i m l = some r → ∃ n, (i, n, r) ∈ l ∧ m = (n : Int)
  | [], r, h => by cases h
  | e :: l, r, h => by
    unfold modGo at h
    cases hb : (Nat.beq i e.1 && decide (m = (e.2.1 : Int))) with
    | true =>
      rw [hb] at h
      cases h
      rw [Bool.and_eq_true] at hb
      have h1 := Nat.eq_of_beq_eq_true hb.1
      subst h1
      exact ⟨e.2.1, .head _, of_decide_eq_true hb.2⟩
    | false =>
      rw [hb] at h
      obtain ⟨n, h1, h2⟩ := modGo_mem h
      exact ⟨n, .tail _ h1, h2⟩
/-- Two numbers that a text leaves open. -/
class Par where
  q : Nat
  a : Nat

variable [Unk] [Kn] [KnOk] {P : Program}
theorem flat1_same {σ : Sg} {v v' : Value} (hv : flat1 v = true) (h : VRel σ v v') : v' = v := by
  cases h <;> first | rfl | (simp [flat1] at hv)
theorem told_ok {tabs : OTabs} (hg : P.globals.size = tabs.length) (hflat : ∀ (i : Nat) t c, tabs[i]? = some (some (t, c)) → ∀ v ∈ c, flat1 v = true) {f : FuncId} {v : Value} (hv : Flat v)
    (hw : ∀ (σ : Sg) (W : World), Rel P σ (otabH tabs) W → Calls P f #[] W fun e w' => e = .returned v ∧ Below W.heap.size W w')
    {call : Caller} {args : List Value} {A : H} {r : Value} {A' : H} (h : toldA tabs v call args A = some (r, A')) {σ : Sg} {w : World} {argsc : List Value} (hr : Rel P σ A w) (hl : LRel σ args argsc) :
    Calls P f argsc.toArray w (CPost P σ A w r A') := by
  unfold toldA at h
  split at h
  case h_2 => cases h
  cases hb : tabsIn tabs 0 A with
  | false => rw [hb] at h; cases h
  | true =>
    rw [hb] at h
    simp only [cond_true, Option.some.injEq, Prod.mk.injEq] at h
    obtain ⟨rfl, rfl⟩ := h
    have : argsc = [] := List.eq_nil_of_length_eq_zero (by have := hl.len; simpa using this.symm)
    subst this
    have hin := tabsIn_get hb
    have hrel : Rel P (fun i => if i < tabs.length then σ i else none) (otabH tabs) w := by
      refine ⟨fun g hlt => ?_, fun id o p ho hs => ?_, fun i j p q o o' _ ho _ _ _ hown => ?_, fun id p hs => ?_, fun id hid => ?_⟩
      · obtain ⟨p, h1, h2, h3⟩ := hr.glob g hlt
        exact ⟨p, by simp only [if_pos (show g < tabs.length by omega)]; exact h1, h2, h3⟩
      · have ho' := ho
        rw [otabH_get, Option.map_eq_some_iff] at ho
        obtain ⟨x, hx, rfl⟩ := ho
        rw [Option.join_eq_some_iff] at hx
        have hlt : id < tabs.length := (List.getElem?_eq_some_iff.1 hx).1
        simp only [if_pos hlt] at hs
        have hA := hin id x hx
        rw [Nat.zero_add] at hA
        obtain ⟨cur, e', fz, q1, q2, q3, q4, q5, q6⟩ := hr.obj id _ p hA hs
        exact ⟨cur, e', fz, q1, q2, fun i v v' h1 h2 => by
          have hf := hflat id x.1 x.2 hx v (List.mem_of_getElem? h1)
          rw [flat1_same hf (q3 i v v' h1 h2)]
          exact (flat1_flat hf).vrel, q4, q5, fun h => by cases h⟩
      · rw [otabH_ro _ ho] at hown
        cases hown
      · by_cases hlt : id < tabs.length
        · simp only [if_pos hlt] at hs; exact hr.lt id p hs
        · simp only [if_neg hlt] at hs; cases hs
      · unfold otabH at hid
        rw [otabGo_next] at hid
        simp only [Nat.zero_add] at hid
        exact ⟨by rw [otabH_get, List.getElem?_eq_none hid]; rfl, by simp only [if_neg (show ¬ id < tabs.length by omega)]⟩
    exact (hw _ w hrel).mono fun e w' he => CPost.flat hr hv he.1 he.2

theorem modT_ok {n r0 : Nat} (hn : 1 ≤ n ∧ n ≤ 4096) {f : FuncId} (hw : ∀ (k m : Int) (w : World), 1 ≤ m → m ≤ 4096 → Calls P f #[.int .i64 k, .int .i64 m] w fun e w' => e = .returned (.int .i64 (modV k m)) ∧ Below w.heap.size w w')
    {typ : Int} (ht : Unk.val 0 = .int .i64 typ) (hr0 : modV typ (n : Int) = r0)
    {call : Caller} {args : List Value} {A : H} {r : Value} {A' : H} (h : modT n r0 call args A = some (r, A')) {σ : Sg} {w : World} {argsc : List Value} (hr : Rel P σ A w) (hl : LRel σ args argsc) :
    Calls P f argsc.toArray w (CPost P σ A w r A') := by
  unfold modT at h
  split at h
  · rename_i m
    split at h
    · rename_i hm
      simp only [Option.some.injEq, Prod.mk.injEq] at h
      obtain ⟨rfl, rfl⟩ := h
      obtain ⟨v1, r1, rfl, hv1, hl⟩ := hl.cons_inv
      obtain ⟨v2, r2, rfl, hv2, hl⟩ := hl.cons_inv
      have : r2 = [] := List.eq_nil_of_length_eq_zero (by have := hl.len; simpa using this.symm)
      subst this
      cases hv1; cases hv2
      subst hm
      rw [ht]
      refine (hw typ (n : Int) w (by omega) (by omega)).mono fun e w' he => ?_
      rw [hr0] at he
      exact CPost.flat hr (.int _ _) he.1 he.2
    · cases h
  · rename_i k m
    split at h
    · rename_i hm
      simp only [Option.some.injEq, Prod.mk.injEq] at h
      obtain ⟨rfl, rfl⟩ := h
      obtain ⟨v1, r1, rfl, hv1, hl⟩ := hl.cons_inv
      obtain ⟨v2, r2, rfl, hv2, hl⟩ := hl.cons_inv
      have : r2 = [] := List.eq_nil_of_length_eq_zero (by have := hl.len; simpa using this.symm)
      subst this
      cases hv1; cases hv2
      refine (hw k m w hm.1 hm.2).mono fun e w' he => ?_
      exact CPost.flat hr (.int _ _) he.1 he.2
    · cases h
  · cases h
theorem modL_ok {l : List (Nat × Nat × Nat)} {f : FuncId} (hw : ∀ (k m : Int) (w : World), 1 ≤ m → m ≤ 4096 → Calls P f #[.int .i64 k, .int .i64 m] w fun e w' => e = .returned (.int .i64 (modV k m)) ∧ Below w.heap.size w w')
    (ht : ∀ e ∈ l, 1 ≤ e.2.1 ∧ e.2.1 ≤ 4096 ∧ ∃ x : Int, Unk.val e.1 = .int .i64 x ∧ modV x (e.2.1 : Int) = (e.2.2 : Int))
    {call : Caller} {args : List Value} {A : H} {r : Value} {A' : H} (h : modL l call args A = some (r, A')) {σ : Sg} {w : World} {argsc : List Value} (hr : Rel P σ A w) (hl : LRel σ args argsc) :
    Calls P f argsc.toArray w (CPost P σ A w r A') := by
  unfold modL at h
  split at h
  · rename_i i m
    rw [Option.map_eq_some_iff] at h
    obtain ⟨r0, h0, he⟩ := h
    cases he
    obtain ⟨n, hm, rfl⟩ := modGo_mem h0
    obtain ⟨h1, h2, x, hx, hr0⟩ := ht _ hm
    obtain ⟨v1, r1, rfl, hv1, hl⟩ := hl.cons_inv
    obtain ⟨v2, r2, rfl, hv2, hl⟩ := hl.cons_inv
    have : r2 = [] := List.eq_nil_of_length_eq_zero (by have := hl.len; simpa using this.symm)
    subst this
    cases hv1; cases hv2
    simp only at hx h1 h2 hr0
    rw [hx]
    refine (hw x (n : Int) w (by omega) (by omega)).mono fun e w' he => ?_
    rw [hr0] at he
    exact CPost.flat hr (.int _ _) he.1 he.2
  · rename_i k m
    split at h
    · rename_i hm
      simp only [Option.some.injEq, Prod.mk.injEq] at h
      obtain ⟨rfl, rfl⟩ := h
      obtain ⟨v1, r1, rfl, hv1, hl⟩ := hl.cons_inv
      obtain ⟨v2, r2, rfl, hv2, hl⟩ := hl.cons_inv
      have : r2 = [] := List.eq_nil_of_length_eq_zero (by have := hl.len; simpa using this.symm)
      subst this
      cases hv1; cases hv2
      refine (hw k m w hm.1 hm.2).mono fun e w' he => ?_
      exact CPost.flat hr (.int _ _) he.1 he.2
    · cases h
  · cases h
end Go.Ab
namespace Go.Ab
open Go
def strN : List UInt8 → Nat → Nat
  | [], a => a
  | b :: l, a => strN l (a * 256 + b.toNat)
def natL : Nat → Nat → List UInt8 → List UInt8
  | 0, _, acc => acc
  | k + 1, n, acc => natL k (n / 256) (UInt8.ofNat (n % 256) :: acc)
/-- A text of so many bytes, told as one number. -/
def nstr (len n : Nat) : ByteArray := ofBytes (natL len n [])
/-- A number by which values are told apart; nothing hangs on it. -/
def mixN (a x : Nat) : Nat := (a * 1000003 + x) % 18446744073709551557
def keyV (a : Nat) : Value → Nat
  | .bool b => mixN a (bif b then 1 else 2)
  | .int _ n => mixN a (n + 36893488147419103232).toNat
  | .string s => mixN a (strN (bytesOf s) 1)
  | .chan (some i) => mixN a (Nat.add i 5)
  | .complex _ l n => mixN (mixN a l) n
  | _ => mixN a 3
def keyL (a : Nat) : List Value → Nat
  | [] => a
  | v :: l => keyL (keyV a v) l
def keyW (a : Nat) : Value → Nat
  | .agg c => keyL a c.toList
  | v => keyV a v
def keyA (a : Nat) : List Value → Nat
  | [] => a
  | v :: l => keyA (keyW a v) l
end Go.Ab
namespace Go.Ab
open Go Go.RowKit

/-! ### Texts as numbers -/
theorem strN_snoc (b : UInt8) : ∀ (l : List UInt8) (a : Nat), strN (l ++ [b]) a = strN l a * 256 + b.toNat := by
  intro l
  induction l with
  | nil => intro a; rfl
  | cons c l ih => intro a; simp only [List.cons_append, strN, ih]
theorem strN_pos : ∀ (l : List UInt8) (a : Nat), 1 ≤ a → 1 ≤ strN l a := by
  intro l
  induction l with
  | nil => intro a h; exact h
  | cons c l ih => intro a h; exact ih _ (by omega)
theorem strN_inj' : ∀ (l m : List UInt8), strN l.reverse 1 = strN m.reverse 1 → l = m := by
  intro l
  induction l with
  | nil =>
    intro m h
    cases m with
    | nil => rfl
    | cons c m =>
      simp only [List.reverse_nil, List.reverse_cons, strN_snoc, strN] at h
      have := strN_pos m.reverse 1 (by omega)
      omega
  | cons b l ih =>
    intro m h
    cases m with
    | nil =>
      simp only [List.reverse_nil, List.reverse_cons, strN_snoc, strN] at h
      have := strN_pos l.reverse 1 (by omega)
      omega
    | cons c m =>
      simp only [List.reverse_cons, strN_snoc] at h
      have h1 := b.toNat_lt
      have h2 := c.toNat_lt
      have e1 : b.toNat = c.toNat := by omega
      have e2 : strN l.reverse 1 = strN m.reverse 1 := by omega
      rw [ih m e2, UInt8.toNat_inj.1 e1]
theorem strN_inj {l m : List UInt8} (h : strN l 1 = strN m 1) : l = m := by
  have := strN_inj' l.reverse m.reverse (by simpa using h)
  simpa using this

/-! ### Plain values -/
def eqw : Value → Value → Bool
  | .bool a, .bool b => a == b
  | .int k a, .int k' b => decide (k = k') && a == b
  | .string a, .string b => Nat.beq (strN (bytesOf a) 1) (strN (bytesOf b) 1)
  | .pointer none, .pointer none => true
  | .slice none l c, .slice none l' c' => Nat.beq l l' && Nat.beq c c'
  | .map none, .map none => true
  | .nilFunc, .nilFunc => true
  | .nilIface, .nilIface => true
  | .chan (some i), .chan (some j) => Nat.beq i j
  | .complex .f64 l n, .complex .f64 l' n' => Nat.beq l l' && Nat.beq n n'
  | .complex .f32 l n, .complex .f32 l' n' => Nat.beq l l' && Nat.beq n n'
  | _, _ => false
def eqwL (g : Value → Value → Bool) : List Value → List Value → Bool
  | [], [] => true
  | a :: l, b :: m => g a b && eqwL g l m
  | _, _ => false
/-- Structs of plain values, and several of these. -/
def eqx : Nat → Value → Value → Bool
  | 0, a, b => eqw a b
  | n + 1, .agg a, .agg b => eqwL (eqx n) a.toList b.toList
  | n + 1, .tuple a, .tuple b => eqwL (eqx n) a.toList b.toList
  | _ + 1, a, b => eqw a b
/-- A value without addresses. -/
inductive Still : Value → Prop where
  | bool (b : Bool) : Still (.bool b)
  | int (k : IntKind) (n : Int) : Still (.int k n)
  | string (s : ByteArray) : Still (.string s)
  | ptrNil : Still (.pointer none)
  | sliceNil (l c : Nat) : Still (.slice none l c)
  | mapNil : Still (.map none)
  | nilFunc : Still .nilFunc
  | nilIface : Still .nilIface
  | unk (i : Nat) : Still (.chan (some i))
  | rope (l n : Nat) : Still (.complex .f64 l n)
  | sym (l n : Nat) : Still (.complex .f32 l n)
  | agg (as : Array Value) (h : ∀ v ∈ as.toList, Still v) : Still (.agg as)
  | tuple (as : Array Value) (h : ∀ v ∈ as.toList, Still v) : Still (.tuple as)
def PlainEq (a b : Value) : Prop := a = b ∧ Still a
theorem eqw_eq {a b : Value} (h : eqw a b = true) : PlainEq a b := by
  unfold eqw at h
  split at h
  · exact ⟨by simpa using h, .bool _⟩
  · exact ⟨by simpa using h, .int _ _⟩
  · rename_i s t
    have h := strN_inj (Nat.eq_of_beq_eq_true h)
    have : s.data = t.data := by
      apply Array.ext'
      exact h
    refine ⟨?_, .string _⟩
    cases s; cases t; simp_all
  · exact ⟨rfl, .ptrNil⟩
  · rw [Bool.and_eq_true] at h
    rw [Nat.eq_of_beq_eq_true h.1, Nat.eq_of_beq_eq_true h.2]
    exact ⟨rfl, .sliceNil _ _⟩
  · exact ⟨rfl, .mapNil⟩
  · exact ⟨rfl, .nilFunc⟩
  · exact ⟨rfl, .nilIface⟩
  · rw [Nat.eq_of_beq_eq_true h]
    exact ⟨rfl, .unk _⟩
  · rw [Bool.and_eq_true] at h
    rw [Nat.eq_of_beq_eq_true h.1, Nat.eq_of_beq_eq_true h.2]
    exact ⟨rfl, .rope _ _⟩
  · rw [Bool.and_eq_true] at h
    rw [Nat.eq_of_beq_eq_true h.1, Nat.eq_of_beq_eq_true h.2]
    exact ⟨rfl, .sym _ _⟩
  · cases h
theorem eqwL_eq {g : Value → Value → Bool} (hg : ∀ a b, g a b = true → PlainEq a b) : ∀ {l m : List Value}, eqwL g l m = true → l = m ∧ ∀ v ∈ l, Still v
  | [], [], _ => ⟨rfl, fun v h => by cases h⟩
  | a :: l, b :: m, h => by
    rw [eqwL, Bool.and_eq_true] at h
    obtain ⟨h1, h2⟩ := hg _ _ h.1
    obtain ⟨h3, h4⟩ := eqwL_eq hg h.2
    refine ⟨by rw [h1, h3], fun v hv => ?_⟩
    cases hv with
    | head => exact h2
    | tail _ hv => exact h4 v hv
theorem eqx_eq : ∀ (n : Nat) (a b : Value), eqx n a b = true → PlainEq a b := by
  intro n
  induction n with
  | zero => intro a b h; exact eqw_eq h
  | succ n ih =>
    intro a b h
    cases a with
    | agg x =>
      cases b with
      | agg y =>
        obtain ⟨h1, h2⟩ := eqwL_eq ih (l := x.toList) (m := y.toList) h
        exact ⟨by rw [Array.ext' h1], .agg _ h2⟩
      | _ => exact eqw_eq h
    | tuple x =>
      cases b with
      | tuple y =>
        obtain ⟨h1, h2⟩ := eqwL_eq ih (l := x.toList) (m := y.toList) h
        exact ⟨by rw [Array.ext' h1], .tuple _ h2⟩
      | _ => exact eqw_eq h
    | _ => exact eqw_eq h
def eqArgs (a b : List Value) : Bool := eqwL (eqx 2) a b
theorem eqArgs_eq {a b : List Value} (h : eqArgs a b = true) : a = b ∧ ∀ v ∈ a, Still v := eqwL_eq (eqx_eq 2) h

/-! ### What is told -/
abbrev Told := List (Nat × List Value × Value)
def toldGo (k : Nat) (args : List Value) : Told → Option Value
  | [] => none
  | e :: l => bif Nat.beq k e.1 then (bif eqArgs args e.2.1 then some e.2.2 else none) else toldGo k args l
def memA (tabs : OTabs) (l : Told) : Caller → List Value → H → Option (Value × H)
  | _, args, A => (toldGo (keyA 7 args) args l).bind fun v => bif tabsIn tabs 0 A then some (v, A) else none
theorem memA_any (tabs : OTabs) (l : Told) (c c' : Caller) (args : List Value) (A : H) : memA tabs l c args A = memA tabs l c' args A := rfl

variable [Unk] [Kn] [KnOk] {P : Program}
/-- What stands for it hangs on no place. -/
theorem Still.move {σ τ : Sg} {v : Value} (hv : Still v) : ∀ {v' : Value}, VRel σ v v' → VRel τ v v' := by
  induction hv with
  | agg as h ih =>
    intro v' hr
    cases hr with
    | agg _ as' h1 h2 => exact .agg _ _ h1 fun i v v' ha hb => ih v (List.mem_of_getElem? ha) (h2 i v v' ha hb)
  | tuple as h ih =>
    intro v' hr
    cases hr with
    | tuple _ as' h1 h2 => exact .tuple _ _ h1 fun i v v' ha hb => ih v (List.mem_of_getElem? ha) (h2 i v v' ha hb)
  | bool b => intro v' hr; cases hr; exact .bool _
  | int k n => intro v' hr; cases hr; exact .int _ _
  | string s => intro v' hr; cases hr; exact .string _
  | ptrNil => intro v' hr; cases hr; exact .ptrNil
  | sliceNil l c => intro v' hr; cases hr; exact .sliceNil _ _
  | mapNil => intro v' hr; cases hr; exact .mapNil
  | nilFunc => intro v' hr; cases hr; exact .nilFunc
  | nilIface => intro v' hr; cases hr; exact .nilIface
  | unk i => intro v' hr; cases hr; exact .unk i
  | rope l n => intro v' hr; cases hr with | rope _ _ s h => exact .rope _ _ s h
  | sym l n => intro v' hr; cases hr; exact .sym _ _
theorem still_args {σ τ : Sg} {l l' : List Value} (hl : ∀ v ∈ l, Still v) (h : LRel σ l l') : LRel τ l l' :=
  ⟨h.len, fun i v v' ha hb => (hl v (List.mem_of_getElem? ha)).move (h.get i v v' ha hb)⟩

/-- A told answer is right. -/
def Right (P : Program) (tabs : OTabs) (f : FuncId) (e : List Value × Value) : Prop :=
  ∀ (σ : Sg) (W : World), Rel P σ (otabH tabs) W → ∀ argsc, LRel σ e.1 argsc → Calls P f argsc.toArray W fun x w' => ∃ rc, x = .returned rc ∧ (∀ τ, VRel τ e.2 rc) ∧ Below W.heap.size W w'
def AllRight (P : Program) (tabs : OTabs) (f : FuncId) : Told → Prop
  | [] => True
  | e :: l => Right P tabs f e.2 ∧ AllRight P tabs f l
theorem right_of (hmix : P.follows .mixedOrders = true) (hx : Ext P) {code : FuncId → Option XFun} (hcode : CodeOf P code) (hnat : NatOk P code) {n : Nat} {f : FuncId} {args : List Value} {tabs : OTabs} {v r : Value} {A' : H}
    (he : evalF code n f args (otabH tabs) = some (v, A')) (hv : eqx 2 v r = true) (_ha : eqArgs args args = true) : Right P tabs f (args, r) := by
  obtain ⟨rfl, hf⟩ := eqx_eq _ _ _ hv
  intro σ W hr argsc hargs
  refine ((evalF_ok hmix hx hcode hnat n).calls _ _ _ _ _ he σ W argsc hr hargs).mono fun e w' h => ?_
  obtain ⟨rc, σ', rfl, h2, _, h4⟩ := h
  refine ⟨rc, rfl, fun τ => hf.move h2, h4.os, h4.tape, h4.output, h4.size, fun k hk => h4.frame k hk fun ho => ?_⟩
  obtain ⟨id, p, o, _, _, hg, hown⟩ := ho
  rw [otabH_ro _ hg] at hown
  cases hown

theorem tabs_rel {tabs : OTabs} (hg : P.globals.size = tabs.length) (hflat : ∀ (i : Nat) t c, tabs[i]? = some (some (t, c)) → ∀ v ∈ c, flat1 v = true) {σ : Sg} {A : H} {w : World} (hr : Rel P σ A w) (hb : tabsIn tabs 0 A = true) :
    Rel P (fun i => if i < tabs.length then σ i else none) (otabH tabs) w := by
  have hin := tabsIn_get hb
  refine ⟨fun g hlt => ?_, fun id o p ho hs => ?_, fun i j p q o o' _ ho _ _ _ hown => ?_, fun id p hs => ?_, fun id hid => ?_⟩
  · obtain ⟨p, h1, h2, h3⟩ := hr.glob g hlt
    exact ⟨p, by simp only [if_pos (show g < tabs.length by omega)]; exact h1, h2, h3⟩
  · have ho' := ho
    rw [otabH_get, Option.map_eq_some_iff] at ho
    obtain ⟨x, hx, rfl⟩ := ho
    rw [Option.join_eq_some_iff] at hx
    have hlt : id < tabs.length := (List.getElem?_eq_some_iff.1 hx).1
    simp only [if_pos hlt] at hs
    have hA := hin id x hx
    rw [Nat.zero_add] at hA
    obtain ⟨cur, e', fz, q1, q2, q3, q4, q5, q6⟩ := hr.obj id _ p hA hs
    exact ⟨cur, e', fz, q1, q2, fun i v v' h1 h2 => by
      have hf := hflat id x.1 x.2 hx v (List.mem_of_getElem? h1)
      rw [flat1_same hf (q3 i v v' h1 h2)]
      exact (flat1_flat hf).vrel, q4, q5, fun h => by cases h⟩
  · rw [otabH_ro _ ho] at hown
    cases hown
  · by_cases hlt : id < tabs.length
    · simp only [if_pos hlt] at hs; exact hr.lt id p hs
    · simp only [if_neg hlt] at hs; cases hs
  · unfold otabH at hid
    rw [otabGo_next] at hid
    simp only [Nat.zero_add] at hid
    exact ⟨by rw [otabH_get, List.getElem?_eq_none hid]; rfl, by simp only [if_neg (show ¬ id < tabs.length by omega)]⟩

theorem mem_ok {tabs : OTabs} (hg : P.globals.size = tabs.length) (hflat : ∀ (i : Nat) t c, tabs[i]? = some (some (t, c)) → ∀ v ∈ c, flat1 v = true) {f : FuncId} {l : Told} (hl : AllRight P tabs f l)
    {call : Caller} {args : List Value} {A : H} {r : Value} {A' : H} (h : memA tabs l call args A = some (r, A')) {σ : Sg} {w : World} {argsc : List Value} (hr : Rel P σ A w) (ha : LRel σ args argsc) :
    Calls P f argsc.toArray w (CPost P σ A w r A') := by
  unfold memA at h
  rw [Option.bind_eq_some_iff] at h
  obtain ⟨v, hv, h⟩ := h
  cases hb : tabsIn tabs 0 A with
  | false => rw [hb] at h; cases h
  | true =>
    rw [hb] at h
    simp only [cond_true, Option.some.injEq, Prod.mk.injEq] at h
    obtain ⟨rfl, rfl⟩ := h
    have hrel := tabs_rel hg hflat hr hb
    clear hb
    generalize keyA 7 args = key at hv
    induction l with
    | nil => cases hv
    | cons e l ih =>
      unfold toldGo at hv
      cases hk : Nat.beq key e.1 with
      | true =>
        rw [hk] at hv
        cases he : eqArgs args e.2.1 with
        | true =>
          rw [he] at hv
          simp only [cond_true, Option.some.injEq] at hv
          subst hv
          obtain ⟨h1, h2⟩ := eqArgs_eq he
          refine (hl.1 _ w hrel argsc (by rw [← h1]; exact still_args h2 ha)).mono fun x w' hx => ?_
          obtain ⟨rc, hrc, hv, hb⟩ := hx
          obtain ⟨k1, k2⟩ := hr.below hb
          exact ⟨rc, σ, hrc, hv σ, k1, k2⟩
        | false => rw [he] at hv; cases hv
      | false =>
        rw [hk] at hv
        exact ih hl.2 hv
end Go.Ab
namespace Go.Ab
open Go
/-- Byte i % 16 behind the i / 16-th of the bytes; two numbers; whatever else. -/
def unkVal (f : Nat → UInt8) (g : Nat → Value) (i : Nat) : Value :=
  if i < 4096 then byteV (f (i / 16) + UInt8.ofNat (i % 16)) else if isKey i = true then .int .u64 (Int.ofNat i - 4999) else g i
theorem byte_add {a b : UInt8} (m : Nat) (h : a ≠ b) : byteV (a + UInt8.ofNat m) ≠ byteV (b + UInt8.ofNat m) := by
  intro e
  simp only [byteV, Value.int.injEq, true_and] at e
  have e := Int.ofNat.inj e
  apply h
  apply UInt8.toNat_inj.1
  rw [UInt8.toNat_add, UInt8.toNat_add] at e
  have := a.toNat_lt
  have := b.toNat_lt
  omega
theorem key_not {i : Nat} (h : isKey i = true) : ¬ i < 4096 := by
  unfold isKey at h
  rw [Bool.or_eq_true] at h
  rcases h with h | h <;> (have := Nat.eq_of_beq_eq_true h; omega)
/-- Unknown values: texts with numbers 7000 and more, else as above. -/
def unkVal2 (f : Nat → UInt8) (g : Nat → Value) (tx : Nat → ByteArray) (i : Nat) : Value := if isText i = true then .string (tx (i % 100)) else unkVal f g i
/-- The bits: those that are given, and those of the texts' lengths. -/
def unkBit (b : Nat → Bool) (tx : Nat → ByteArray) (n : Nat) : Bool := if 40000 ≤ n then ((tx ((n - 40000) / 64)).size).testBit ((n - 40000) % 64) else b n
theorem text_not {i : Nat} (h : isText i = true) : ¬ i < 4096 ∧ isKey i = false := by
  unfold isText at h
  have h : i / 100 = 70 := Nat.eq_of_beq_eq_true h
  refine ⟨by omega, ?_⟩
  cases hk : isKey i with
  | false => rfl
  | true =>
    unfold isKey at hk
    rw [Bool.or_eq_true] at hk
    rcases hk with hk | hk <;> (have := Nat.eq_of_beq_eq_true hk; omega)
theorem lenBits_get (i j : Nat) (h : j < 63) : (lenBits i).getD j 0 = 40002 + (64 * (i % 100) + j) := by
  unfold lenBits
  rw [List.getD_eq_getElem?_getD, List.getElem?_map, List.getElem?_range h]
  rfl
theorem lenBits_den (b : Nat → Bool) (tx : Nat → ByteArray) (i : Nat) (h : (tx (i % 100)).size < 9223372036854775808) : (tx (i % 100)).size = denL (unkBit b tx) (lenBits i) := by
  apply Nat.eq_of_testBit_eq
  intro j
  rw [test_den]
  by_cases hj : j < 63
  · rw [lenBits_get i j hj]
    unfold bitV
    rw [if_neg (by omega), if_neg (by omega)]
    unfold unkBit
    rw [if_pos (by omega), show (40002 + (64 * (i % 100) + j) - 2 - 40000) / 64 = i % 100 by omega, show (40002 + (64 * (i % 100) + j) - 2 - 40000) % 64 = j by omega]
  · have e : (lenBits i).getD j 0 = 0 := by
      unfold lenBits
      rw [List.getD_eq_getElem?_getD, List.getElem?_eq_none (by simp; omega)]
      rfl
    rw [e, bitV0]
    exact Nat.testBit_lt_two_pow (Nat.lt_of_lt_of_le h (Nat.pow_le_pow_right (n := 2) (by decide) (by omega : 63 ≤ j)))
@[reducible] def unkOf (f : Nat → UInt8) (hf : f 0 ≠ f 1) (g : Nat → Value) (h1 : ∀ i, oneCell (g i) = true) (h2 : ∀ i b, g i ≠ .bool b) (b : Nat → Bool) (tx : Nat → ByteArray) (htx : ∀ k, (tx k).size < 9223372036854775808) : Unk where
  val := unkVal2 f g tx
  bit := unkBit b tx
  text i hi := ⟨tx (i % 100), by unfold unkVal2; rw [if_pos hi], lenBits_den b tx i (htx _)⟩
  one i := by
    unfold unkVal2
    split
    · rfl
    unfold unkVal
    split
    · rfl
    · split
      · rfl
      · exact h1 i
  nob i b := by
    unfold unkVal2
    split
    · intro h; cases h
    unfold unkVal
    split
    · intro h; cases h
    · split
      · intro h; cases h
      · exact h2 i b
  byt i hi := ⟨f (i / 16) + UInt8.ofNat (i % 16), by unfold unkVal2; rw [if_neg (fun h => (text_not h).1 hi)]; unfold unkVal; rw [if_pos hi]⟩
  neq i j h := by
    unfold neqTok at h
    rw [Bool.and_eq_true, Bool.or_eq_true, Bool.and_eq_true, Bool.and_eq_true] at h
    obtain ⟨h0, h⟩ := h
    have h0 : i % 16 = j % 16 := Nat.eq_of_beq_eq_true h0
    rcases h with ⟨ha, hb⟩ | ⟨ha, hb⟩
    · have ha : i < 16 := Nat.le_of_ble_eq_true ha
      have hb : j / 16 = 1 := Nat.eq_of_beq_eq_true hb
      unfold unkVal2
      rw [if_neg (fun h => (text_not h).1 (by omega)), if_neg (fun h => (text_not h).1 (by omega))]
      unfold unkVal
      rw [if_pos (by omega), if_pos (by omega), show i / 16 = 0 by omega, hb, h0]
      exact byte_add _ hf
    · have ha : j < 16 := Nat.le_of_ble_eq_true ha
      have hb : i / 16 = 1 := Nat.eq_of_beq_eq_true hb
      unfold unkVal2
      rw [if_neg (fun h => (text_not h).1 (by omega)), if_neg (fun h => (text_not h).1 (by omega))]
      unfold unkVal
      rw [if_pos (by omega), if_pos (by omega), show j / 16 = 0 by omega, hb, h0]
      exact byte_add _ hf.symm
  key i h := by
    have hn := key_not h
    have ht : ¬ isText i = true := fun hh => by rw [(text_not hh).2] at h; cases h
    refine ⟨Int.ofNat i - 4999, by unfold unkVal2; rw [if_neg ht]; unfold unkVal; rw [if_neg hn, if_pos h], ?_, ?_⟩
    all_goals
      unfold isKey at h
      rw [Bool.or_eq_true] at h
      rcases h with h | h <;> (have := Nat.eq_of_beq_eq_true h; subst this; decide)
  keys := by
    show unkVal2 f g tx 5000 ≠ unkVal2 f g tx 5001
    unfold unkVal2
    rw [if_neg (by decide), if_neg (by decide)]
    unfold unkVal
    rw [if_neg (by decide : ¬ 5000 < 4096), if_pos (by decide : isKey 5000 = true), if_neg (by decide : ¬ 5001 < 4096), if_pos (by decide : isKey 5001 = true)]
    intro h
    simp at h
  sum i m hi hm := by
    refine ⟨f (i / 16) + UInt8.ofNat (i % 16), ?_, ?_⟩
    · unfold unkVal2; rw [if_neg (fun h => (text_not h).1 hi)]; unfold unkVal; rw [if_pos hi]
    unfold unkVal2
    rw [if_neg (fun h => (text_not h).1 (by omega))]
    unfold unkVal
    rw [if_pos (by omega), show (i + m) / 16 = i / 16 by omega, show (i + m) % 16 = i % 16 + m by omega, UInt8.ofNat_add]
    rw [UInt8.add_assoc]
/-- Who knows nothing. -/
@[reducible] def knNone : Kn := ⟨fun _ => none, fun _ _ => none⟩
theorem knNone_ok [Unk] : @KnOk knNone _ := @KnOk.mk knNone _ (fun _ _ h => by cases h) (fun _ _ _ h => by cases h)
end Go.Ab
