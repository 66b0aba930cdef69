/- The program's code compiled with the types looked up another way. -/
import Derived.Test.YtainaihfbljjoaaGreatDoorAbKOk
import Derived.KernelRfl
set_option linter.all false
set_option linter.unusedSectionVars false
set_option linter.unusedVariables false
set_option linter.unusedSimpArgs false
namespace Go.Ab
open Go

def undI (I : TypeId → Option TypeInfo) (t : TypeId) : Option TypeDesc :=
  match I t with
  | some { desc := .named _ u, .. } => (I u).map (·.desc)
  | some i => some i.desc
  | none => none
def fieldKindsI (P : Program) (I : TypeId → Option TypeInfo) : List Field → Option (List (Nat × TypeDesc))
  | [] => some []
  | f :: fs => bif f.name == "_" then none else (undI I f.type).bind fun d => bif scalarKey d then (fieldKindsI P I fs).map ((f.offset, d) :: ·) else none
def keyKindI (P : Program) (I : TypeId → Option TypeInfo) (t : TypeId) : Option KKind := match undI I t with
  | some (.struct fs) => bif P.stoodInHeld t then none else (fieldKindsI P I fs.toList).map .many
  | some d => bif scalarKey d then some (.one d) else none
  | none => none
/-! ### From the program's code -/
def sizeAI (P : Program) (I : TypeId → Option TypeInfo) (t : TypeId) : Option Nat := (I t).map (·.size)
def aggAI (P : Program) (I : TypeId → Option TypeInfo) (t : TypeId) : Option Bool := (undI I t).map fun | .struct _ | .array _ _ => true | _ => false
def zeroAI (P : Program) (I : TypeId → Option TypeInfo) (t : TypeId) : Option (List Value) := (I t).bind fun i => i.zero.bind fun z => bif (cellsL z).all flat1 && Nat.beq (cellsL z).length i.size then some (cellsL z) else none
def placesAI (P : Program) (I : TypeId → Option TypeInfo) : List Field → Option (List (Nat × Nat))
  | [] => some []
  | f :: fs => (sizeAI P I f.type).bind fun n => (placesAI P I fs).map fun r => (f.offset, n) :: r
def compPartsI (P : Program) (I : TypeId → Option TypeInfo) (t : TypeId) (ps : List (Nat × Operand)) : Option (List (Nat × Nat × Operand)) :=
  match undI I t with
  | some (.struct fs) => (placesAI P I fs.toList).bind fun pl => partsA (pl[·]?) ps
  | some (.array _ e) => (sizeAI P I e).bind fun n => partsA (fun i => some (i * n, n)) ps
  | some (.slice e) => (sizeAI P I e).bind fun n => partsA (fun i => some (i * n, n)) ps
  | _ => none
def compBuiltinI (P : Program) (I : TypeId → Option TypeInfo) (b : Builtin) (ts : Array TypeId) (xs : List Operand) : Option XOp :=
  match b with
  | .len => match ts[0]?, xs with
    | some t, [x] => match undI I t with
      | some .string => some (.lenStr x)
      | some (.slice _) => some (.len none x)
      | some (.array n _) => some (.len (some n) x)
      | some (.pointer a) => match undI I a with
        | some (.array n _) => some (.len (some n) x)
        | _ => none
      | _ => none
    | _, _ => none
  | .append => match ts[0]?, ts[1]?, xs with
    | some t, some u, [s, x] => match undI I t, undI I u with
      | some (.slice e), some (.slice _) | some (.slice e), some .string => (I e).bind fun i => (zeroAI P I e).map fun _ => .append e i.size i.bytes s x
      | _, _ => none
    | _, _, _ => none
  | .copy => match ts[0]?, xs with
    | some t, [s, x] => match undI I t with
      | some (.slice e) => (sizeAI P I e).map fun n => .copy n s x
      | _ => none
    | _, _ => none
  | .clear => match ts[0]?, xs with
    | some t, [x] => match undI I t with
      | some (.slice e) => (zeroAI P I e).map fun z => .clear z x
      | _ => none
    | _, _ => none
  | .delete => match ts[0]?, xs with
    | some t, [m, k] => match undI I t with
      | some (.map kt _) => (keyKindI P I kt).map fun d => .mapDel d m k
      | _ => none
    | _, _ => none
  | .min => some (.minmax false xs)
  | .max => some (.minmax true xs)
  | _ => none
def methodOfI (P : Program) (I : TypeId → Option TypeInfo) (name : String) (t : TypeId) : Option FuncId := (I t).bind fun i => (i.methods.find? (·.name == name)).bind fun m => match m.path.toList, m.func, undI I t with
  | [], some (f, true), some (.pointer _) => some f
  | [], some (f, false), some (.struct _) => some f
  | [], some (f, false), some (.int _) => some f
  | _, _, _ => none
def compCallI (P : Program) (I : TypeId → Option TypeInfo) (c : Call) : Option XOp :=
  match c.callee with
  | .value (.func f) => match P.funcs[f]? with
    | some fn => if fn.body.isSome && fn.name != "runtime.NumGoroutine" then some (.call f c.args.toList) else if fn.body.isNone then (match extKind fn.name with | some kd => some (.ext kd c.args.toList) | none => none) else none
    | none => none
  | .value (.tmp t) => some (.callV (.tmp t) c.args.toList)
  | .value _ => none
  | .builtin b => compBuiltinI P I b c.argTypes c.args.toList
  | .invoke r name => some (.callI (methodOfI P I name) r c.args.toList)
def compBinI (P : Program) (I : TypeId → Option TypeInfo) (op : BinOp) (xt : TypeId) (d : TypeDesc) (x y : Operand) : Option XOp := match op, d with
  | .eql, .interface _ => bif isNilC y then some (.isNil false x y) else none
  | .neq, .interface _ => bif isNilC y then some (.isNil true x y) else none
  | .eql, .struct _ => match keyKindI P I xt with
    | some (.many l) => bif P.eqGuardType P.depth xt then none else some (.eqS false l x y)
    | _ => none
  | .neq, .struct _ => match keyKindI P I xt with
    | some (.many l) => bif P.eqGuardType P.depth xt then none else some (.eqS true l x y)
    | _ => none
  | op, d => some (.bin op d x y)
def compOpI (P : Program) (I : TypeId → Option TypeInfo) (o : Oper) : Option XOp :=
  match o.op with
  | .move x | .assign x => some (.move x)
  | .pick c a b => some (.pick c a b)
  | .alloc e => (zeroAI P I e).map (.alloc e)
  | .box e x => (sizeAI P I e).map fun _ => .box e x
  | .build t ps => (zeroAI P I t).bind fun z => match undI I t with
    | some (.struct _) | some (.array _ _) => (compPartsI P I t ps.toList).map (.build z)
    | _ => none
  | .buildSlice t n ps => match undI I t with
    | some (.slice e) => (sizeAI P I e).bind fun s => (compPartsI P I t ps.toList).bind fun q => (if n * s = 0 then some [] else if n * s > 16777216 then none else (zeroAI P I e).map fun z => zeros z n).map fun z => .buildSlice e n z q
    | _ => none
  | .load t a => (sizeAI P I t).bind fun n => (aggAI P I t).map fun b => .load n b a
  | .store t a x => (sizeAI P I t).map fun n => .store n a x
  | .nilCheck x => some (.nilCheck x)
  | .binOp op xt x y _ => (undI I xt).bind fun d => compBinI P I op xt d x y
  | .unOp op _ x => some (.un op x)
  | .convert s d x => match undI I s, undI I d with
    | some (.int _), some (.int k) => some (.toInt k x)
    | some .string, some .string => some (.same x)
    | some .string, some (.slice e) => match undI I e with
      | some (.int .u8) => bif (sizeAI P I e) == some 1 then some (.toBytes e x) else none
      | _ => none
    | some (.slice e), some .string => match undI I e with
      | some (.int .u8) => some (.ofBytes x)
      | _ => none
    | some (.pointer t), some .unsafePointer => (sizeAI P I t).bind fun n => if n = 0 then none else some (.toUnsafe x)
    | _, _ => none
  | .typeAssert x _ t ok => bif ok then ((I t).bind (·.zero)).bind fun z => bif (cellsL z).all flat1 then (undI I t).map fun | .interface _ => .assert none z x | _ => .assert (some t) z x else none else none
  | .makeInterface t x => match undI I t with
    | some (.interface _) | none => none
    | _ => some (.makeIface t x)
  | .makeFunc fn first cap => some (.makeFunc fn first.toList cap.toList)
  | .makeMap _ r => if r.isNone then some .makeMap else none
  | .makeSlice t l c => match undI I t with
    | some (.slice e) => (I e).bind fun i => (zeroAI P I e).map fun z => .makeSlice e i.bytes i.size z l c
    | _ => none
  | .slice t x lo hi mx => match undI I t with
    | some .string => if mx.isNone then some (.sliceStr x lo hi) else none
    | some (.slice e) => bif mx.isSome && hi.isNone then none else (sizeAI P I e).map fun s => .slice e s none x lo hi mx
    | some (.array n e) => bif mx.isSome && hi.isNone then none else (sizeAI P I e).map fun s => .slice e s (some n) x lo hi mx
    | _ => none
  | .fieldAddr s x f => match undI I s with
    | some (.struct fs) => (fs[f]?).bind fun fl => (sizeAI P I fl.type).bind fun n => if n = 0 then none else some (.fieldAddr fl.offset x)
    | _ => none
  | .field t x f => match undI I t with
    | some (.struct fs) => (fs[f]?).bind fun fl => (sizeAI P I fl.type).bind fun n => (aggAI P I fl.type).map fun b => .field fl.offset n b x
    | _ => none
  | .indexAddr t x i => match undI I t with
    | some (.array n e) => (sizeAI P I e).map fun s => .indexAddr (some n) s x i
    | some (.slice e) => (sizeAI P I e).map fun s => .indexAddr none s x i
    | _ => none
  | .index t x i => match undI I t with
    | some (.array n e) => (sizeAI P I e).bind fun s => (aggAI P I e).map fun b => .index (some (n, s, b)) x i
    | some .string => some (.index none x i)
    | _ => none
  | .lookup t m k ok => match undI I t with
    | some (.map kt e) => (keyKindI P I kt).bind fun d => ((I e).bind (·.zero)).bind fun z => bif (cellsL z).all flat1 then some (.lookup d z m k ok) else none
    | _ => none
  | .mapUpdate t m k x | .insert t m k x => match undI I t with
    | some (.map kt _) => (keyKindI P I kt).map fun d => .mapPut d m k x
    | _ => none
  | .range t x => match undI I t with
    | some .string => some (.rangeStr x)
    | _ => none
  | .next x b => bif b then some (.nextStr x) else none
  | .extract x i => some (.extract x i)
  | .call c => compCallI P I c
  | _ => none
def compOperI (P : Program) (I : TypeId → Option TypeInfo) (nt : Nat) (ops : Array Oper) (o : Oper) : XOper :=
  match compOpI P I o, compGuard ops o.guard with
  | some x, some g => bif o.op.operands.toList.all (okOperand P nt) && okDst nt o.dst && okDst nt (g.map (·.1)) then { dst := o.dst, guard := g, op := x } else { dst := none, guard := none, op := .bad o.pos }
  | _, _ => { dst := none, guard := none, op := .bad o.pos }
def compDrawI (P : Program) (I : TypeId → Option TypeInfo) (nt : Nat) (ops : Array Oper) : XCode :=
  let l := ops.toList
  let xs := l.map (compOperI P I nt ops)
  let es := l.map edgeBits
  let bs := aheads [] l
  let c := orderA es xs l.length 0
  let dsts := l.map (·.dst)
  let slots := l.map (slotsA ops)
  bif okOrder es xs 0 c && okPairs dsts slots bs l.length && okLooks xs dsts slots bs l.length then .draw (stepsA bs xs 0 c) else .bad "draw"
def compCI (P : Program) (I : TypeId → Option TypeInfo) (nt : Nat) : Code → XCode
  | .skip | .label _ => .skip
  | .region _ ops draw => bif draw then compDrawI P I nt ops else .ops (ops.toList.map (compOperI P I nt ops))
  | .seq a b => .seq (compCI P I nt a) (compCI P I nt b)
  | .cond c a b => bif okOperand P nt c then .cond c (compCI P I nt a) (compCI P I nt b) else .bad "cond"
  | .block id b => .block id (compCI P I nt b)
  | .loop b => .loop (compCI P I nt b)
  | .exit id => .exit id
  | .ret => .ret
  | .scope _ => .bad "scope"
  | .rangeFunc .. => .bad "rangeFunc"
  | .goto _ => .bad "goto"
  | .refuse w => .bad w
def compOperDI (P : Program) (I : TypeId → Option TypeInfo) (nt : Nat) (ops : Array Oper) (o : Oper) : XOper := match o.op, o.guard with
  | .call c, none => match c.callee, c.args.toList with
    | .builtin .recover, [] => bif okDst nt o.dst then { dst := o.dst, guard := none, op := .move (.const .nilIface) } else compOperI P I nt ops o
    | _, _ => compOperI P I nt ops o
  | _, _ => compOperI P I nt ops o
def compLateI (P : Program) (I : TypeId → Option TypeInfo) (nt : Nat) : Code → XCode
  | .region _ ops false => .ops (ops.toList.map (compOperDI P I nt ops))
  | .seq a b => .seq (compLateI P I nt a) (compCI P I nt b)
  | _ => .bad "late"
def splitRI (P : Program) (I : TypeId → Option TypeInfo) (nt : Nat) (ops : Array Oper) : Option (XCode × Operand × List Operand) := match ops.toList.getLast? with
  | some o => match o.op, o.guard, o.dst with
    | .defer c, none, none => match c.callee with
      | .value f => bif okOperand P nt f && c.args.toList.all (okOperand P nt) then some (.ops (ops.toList.dropLast.map (compOperI P I nt ops)), f, c.args.toList) else none
      | _ => none
    | _, _, _ => none
  | none => none
def splitDI (P : Program) (I : TypeId → Option TypeInfo) (nt : Nat) : Code → Option (XCode × Operand × List Operand × XCode)
  | .seq (.region id ops false) b => match splitRI P I nt ops with
    | some (x, f, das) => some (x, f, das, compCI P I nt b)
    | none => (splitDI P I nt b).map fun r => (.seq (compCI P I nt (.region id ops false)) r.1, r.2)
  | _ => none
def compResI (P : Program) (I : TypeId → Option TypeInfo) (nt : Nat) : List ResultVar → Option (List (Nat × Option (Nat × Bool)))
  | [] => some []
  | .tmp t :: r => bif Nat.blt t nt then (compResI P I nt r).map ((t, none) :: ·) else none
  | .cell a t :: r => bif Nat.blt a nt then (sizeAI P I t).bind fun n => (aggAI P I t).bind fun b => (compResI P I nt r).map ((a, some (n, b)) :: ·) else none
def compFI (P : Program) (I : TypeId → Option TypeInfo) (f : FuncId) : Option XFun :=
  (P.funcs[f]?).bind fun fn => bif fn.name == "runtime.NumGoroutine" then none else fn.body.bind fun c => (compResI P I fn.ntmps fn.results.toList).map fun r => match splitDI P I fn.ntmps c with
    | some (x, f, das, y) => .dbody fn.ntmps r x f das y
    | none => .body { ntmps := fn.ntmps, body := compCI P I fn.ntmps c, results := r, late := compLateI P I fn.ntmps c }

theorem und_eq (P : Program) : undI P.info? = P.underlying := rfl
theorem fieldKinds_same (P : Program) : fieldKindsI P P.info? = fieldKinds P := by kernel_rfl
theorem keyKind_same (P : Program) : keyKindI P P.info? = keyKind P := by kernel_rfl
theorem sizeA_same (P : Program) : sizeAI P P.info? = sizeA P := by kernel_rfl
theorem aggA_same (P : Program) : aggAI P P.info? = aggA P := by kernel_rfl
theorem zeroA_same (P : Program) : zeroAI P P.info? = zeroA P := by kernel_rfl
theorem placesA_same (P : Program) : placesAI P P.info? = placesA P := by kernel_rfl
theorem compParts_same (P : Program) : compPartsI P P.info? = compParts P := by kernel_rfl
theorem compBuiltin_same (P : Program) : compBuiltinI P P.info? = compBuiltin P := by kernel_rfl
theorem methodOf_same (P : Program) : methodOfI P P.info? = methodOf P := by kernel_rfl
theorem compCall_same (P : Program) : compCallI P P.info? = compCall P := by kernel_rfl
theorem compBin_same (P : Program) : compBinI P P.info? = compBin P := by kernel_rfl
theorem compOp_same (P : Program) : compOpI P P.info? = compOp P := by kernel_rfl
theorem compOper_same (P : Program) : compOperI P P.info? = compOper P := by kernel_rfl
theorem compDraw_same (P : Program) : compDrawI P P.info? = compDraw P := by kernel_rfl
theorem compC_same (P : Program) : compCI P P.info? = compC P := by kernel_rfl
theorem compOperD_same (P : Program) : compOperDI P P.info? = compOperD P := by kernel_rfl
theorem compLate_same (P : Program) : compLateI P P.info? = compLate P := by kernel_rfl
theorem splitR_same (P : Program) : splitRI P P.info? = splitR P := by kernel_rfl
theorem splitD_same (P : Program) : splitDI P P.info? = splitD P := by kernel_rfl
theorem compRes_same (P : Program) : compResI P P.info? = compRes P := by kernel_rfl
theorem compF_same (P : Program) : compFI P P.info? = compF P := by kernel_rfl

/-! ### A list as a tree -/
section
variable {α : Type}
def odds : List α → List α
  | a :: _ :: r => a :: odds r
  | l => l
def evens : List α → List α
  | _ :: b :: r => b :: evens r
  | _ => []
theorem odds_get : ∀ (l : List α) (j : Nat), (odds l)[j]? = l[2 * j]?
  | [], j => by simp [odds]
  | [a], j => by cases j <;> simp [odds]
  | a :: b :: r, j => by
    cases j with
    | zero => simp [odds]
    | succ j =>
      have := odds_get r j
      simp only [odds, List.getElem?_cons_succ, this]
      rw [show 2 * (j + 1) = 2 * j + 1 + 1 by omega, List.getElem?_cons_succ, List.getElem?_cons_succ]
theorem evens_get : ∀ (l : List α) (j : Nat), (evens l)[j]? = l[2 * j + 1]?
  | [], j => by simp [evens]
  | [a], j => by simp [evens]
  | a :: b :: r, j => by
    cases j with
    | zero => simp [evens]
    | succ j =>
      have := evens_get r j
      simp only [evens, List.getElem?_cons_succ, this]
      rw [show 2 * (j + 1) = 2 * j + 1 + 1 by omega, List.getElem?_cons_succ]
theorem odds_len : ∀ (l : List α), (odds l).length ≤ l.length
  | [] => by simp [odds]
  | [a] => by simp [odds]
  | a :: b :: r => by have := odds_len r; simp [odds]; omega
theorem evens_len : ∀ (l : List α), (evens l).length ≤ l.length
  | [] => by simp [evens]
  | [a] => by simp [evens]
  | a :: b :: r => by have := evens_len r; simp [evens]; omega
noncomputable def mkT (n : Nat) : List α → Tr α :=
  Nat.rec (motive := fun _ => List α → Tr α) (fun _ => .nil) (fun _ ih l => List.rec (motive := fun _ => Tr α) .nil (fun x r _ => .node (some x) (ih (odds r)) (ih (evens r))) l) n
theorem mkT_get : ∀ (n : Nat) (l : List α), l.length ≤ n → ∀ k, (mkT n l).get k = l[k]? := by
  intro n
  induction n with
  | zero => intro l h k; have : l = [] := List.eq_nil_of_length_eq_zero (by omega); subst this; rfl
  | succ n ih =>
    intro l h k
    cases l with
    | nil => rfl
    | cons x r =>
      simp only [List.length_cons] at h
      have ho := ih (odds r) (Nat.le_trans (odds_len r) (by omega))
      have he := ih (evens r) (Nat.le_trans (evens_len r) (by omega))
      show (Tr.node (some x) (mkT n (odds r)) (mkT n (evens r))).get k = _
      unfold Tr.get
      cases h0 : Nat.beq k 0 with
      | true => have := Nat.eq_of_beq_eq_true h0; subst this; rfl
      | false =>
        have hk := Nat.ne_of_beq_eq_false h0
        have d1 : Nat.div k 2 = k / 2 := rfl
        have d2 : Nat.sub (Nat.div k 2) 1 = k / 2 - 1 := rfl
        obtain ⟨j, rfl⟩ : ∃ j, k = j + 1 := ⟨k - 1, by omega⟩
        simp only [cond_false, List.getElem?_cons_succ]
        cases h1 : Nat.beq (Nat.mod (j + 1) 2) 1 with
        | true =>
          have hm : (j + 1) % 2 = 1 := Nat.eq_of_beq_eq_true h1
          simp only [cond_true, ho, odds_get]
          rw [show (j + 1).div 2 = (j + 1) / 2 from rfl]
          congr 1
          omega
        | false =>
          have hm : (j + 1) % 2 ≠ 1 := Nat.ne_of_beq_eq_false h1
          simp only [cond_false, he, evens_get]
          rw [show (Nat.sub ((j + 1).div 2) 1) = (j + 1) / 2 - 1 from rfl]
          congr 1
          omega
end
/-- The types, out of a tree. -/
noncomputable def treeI (P : Program) (T : Tr TypeInfo) : TypeId → Option TypeInfo := fun t => Option.rec (motive := fun _ => Option TypeInfo) (P.info? t) (fun i => some i) (getP (pathOf t) T)
theorem treeI_eq {P : Program} {n : Nat} (h : Nat.ble P.types.size n = true) {T : Tr TypeInfo} (hT : T = mkT n P.types.toList) : treeI P T = P.info? := by
  funext t
  unfold treeI
  rw [getP_eq, hT, mkT_get n _ (by simpa using Nat.le_of_ble_eq_true h)]
  simp only [Array.getElem?_toList]
  cases hg : P.types[t]? with
  | none => rfl
  | some i =>
    have hlt : t < P.types.size := (Array.getElem?_eq_some_iff.1 hg).1
    simp only [Tables.info?]
    rw [if_pos hlt]
    exact hg.symm
theorem compFI_eq {P : Program} {I : TypeId → Option TypeInfo} (h : I = P.info?) : compFI P I = compF P := by rw [h]; exact compF_same P
end Go.Ab
