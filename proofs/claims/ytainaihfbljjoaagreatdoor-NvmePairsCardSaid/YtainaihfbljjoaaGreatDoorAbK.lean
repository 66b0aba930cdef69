/- The interpreter once more, told so that the kernel goes through it with little: recursors, answers handed on, temporaries in a tree of eights. -/
import Derived.Test.YtainaihfbljjoaaGreatDoorAbEval
set_option linter.all false
set_option linter.unusedSectionVars false
set_option linter.unusedVariables false
set_option linter.unusedSimpArgs false
namespace Go.Ab
open Go

/-! ### A tree of eights: the temporaries -/
inductive D8 where
  | d0 | d1 | d2 | d3 | d4 | d5 | d6 | d7
  deriving DecidableEq
structure N8 (α : Type) where
  f0 : α
  f1 : α
  f2 : α
  f3 : α
  f4 : α
  f5 : α
  f6 : α
  f7 : α
section
variable {α : Type}
noncomputable def sel8 (d : D8) : N8 α → α :=
  D8.rec (motive := fun _ => N8 α → α) (fun n => n.f0) (fun n => n.f1) (fun n => n.f2) (fun n => n.f3) (fun n => n.f4) (fun n => n.f5) (fun n => n.f6) (fun n => n.f7) d
/-- One part changed; it goes on with the whole. -/
noncomputable def put8 (d : D8) : (α → (α → Bool) → Bool) → N8 α → (N8 α → Bool) → Bool :=
  D8.rec (motive := fun _ => (α → (α → Bool) → Bool) → N8 α → (N8 α → Bool) → Bool)
    (fun g n k => N8.rec (motive := fun _ => Bool) (fun a b c d e f x y => g a fun z => k ⟨z, b, c, d, e, f, x, y⟩) n)
    (fun g n k => N8.rec (motive := fun _ => Bool) (fun a b c d e f x y => g b fun z => k ⟨a, z, c, d, e, f, x, y⟩) n)
    (fun g n k => N8.rec (motive := fun _ => Bool) (fun a b c d e f x y => g c fun z => k ⟨a, b, z, d, e, f, x, y⟩) n)
    (fun g n k => N8.rec (motive := fun _ => Bool) (fun a b c d e f x y => g d fun z => k ⟨a, b, c, z, e, f, x, y⟩) n)
    (fun g n k => N8.rec (motive := fun _ => Bool) (fun a b c d e f x y => g e fun z => k ⟨a, b, c, d, z, f, x, y⟩) n)
    (fun g n k => N8.rec (motive := fun _ => Bool) (fun a b c d e f x y => g f fun z => k ⟨a, b, c, d, e, z, x, y⟩) n)
    (fun g n k => N8.rec (motive := fun _ => Bool) (fun a b c d e f x y => g x fun z => k ⟨a, b, c, d, e, f, z, y⟩) n)
    (fun g n k => N8.rec (motive := fun _ => Bool) (fun a b c d e f x y => g y fun z => k ⟨a, b, c, d, e, f, x, z⟩) n) d
def rep8 (x : α) : N8 α := ⟨x, x, x, x, x, x, x, x⟩
end
abbrev TK := N8 (N8 (N8 Value))
def noV : Value := .tuple #[]
def TK.none : TK := rep8 (rep8 (rep8 noV))
def toD8 : Nat → D8
  | 0 => .d0 | 1 => .d1 | 2 => .d2 | 3 => .d3 | 4 => .d4 | 5 => .d5 | 6 => .d6 | _ => .d7
structure P3 where
  a : D8
  b : D8
  c : D8
def path3 (i : Nat) : P3 := ⟨toD8 (Nat.div i 64), toD8 (Nat.mod (Nat.div i 8) 8), toD8 (Nat.mod i 8)⟩
noncomputable def selT (p : P3) (T : TK) : Value := sel8 p.c (sel8 p.b (sel8 p.a T))
noncomputable def rdT (i : Nat) (T : TK) : Value := Bool.rec (motive := fun _ => Value) noV (selT (path3 i) T) (Nat.blt i 512)
noncomputable def putT (i : Nat) (v : Value) (T : TK) (k : TK → Bool) : Bool :=
  Bool.rec (motive := fun _ => Bool) false (put8 (path3 i).a (fun x => put8 (path3 i).b (fun y => put8 (path3 i).c (fun _ k => k v) y) x) T k) (Nat.blt i 512)

noncomputable def rdK (o : Operand) (T : TK) : Value :=
  Operand.rec (motive := fun _ => TK → Value) (fun i T => rdT i T) (fun v _ => v) (fun g _ => .pointer (some ⟨g, 0, Option.none⟩)) (fun f _ => .func (.func f) #[] #[]) o T

/-! ### Values taken apart -/
noncomputable def natK (n : Nat) (k : Nat → Bool) : Bool := Nat.rec (motive := fun _ => (Nat → Bool) → Bool) (fun k => k 0) (fun m _ k => k (Nat.succ m)) n k
section
abbrev M2 : Array Value → Type := fun _ => Unit
abbrev M3 : List Value → Type := fun _ => Unit
noncomputable def intK (v : Value) : (IntKind → Int → Bool) → Bool :=
  Value.rec (motive_1 := fun _ => (IntKind → Int → Bool) → Bool) (motive_2 := M2) (motive_3 := M3)
    (fun _ _ => false) (fun kd n k => k kd n) (fun _ _ _ => false) (fun _ _ _ _ => false) (fun _ _ => false) (fun _ _ => false) (fun _ _ _ _ => false) (fun _ _ => false) (fun _ _ => false)
    (fun _ _ _ _ _ _ => false) (fun _ => false) (fun _ _ _ _ => false) (fun _ => false) (fun _ _ _ => false) (fun _ _ _ => false) (fun _ _ => ()) () (fun _ _ _ _ => ()) v
noncomputable def boolK (v : Value) : (Bool → Bool) → Bool :=
  Value.rec (motive_1 := fun _ => (Bool → Bool) → Bool) (motive_2 := M2) (motive_3 := M3)
    (fun b k => k b) (fun _ _ _ => false) (fun _ _ _ => false) (fun _ _ _ _ => false) (fun _ _ => false) (fun _ _ => false) (fun _ _ _ _ => false) (fun _ _ => false) (fun _ _ => false)
    (fun _ _ _ _ _ _ => false) (fun _ => false) (fun _ _ _ _ => false) (fun _ => false) (fun _ _ _ => false) (fun _ _ _ => false) (fun _ _ => ()) () (fun _ _ _ _ => ()) v
noncomputable def strK (v : Value) : (ByteArray → Bool) → Bool :=
  Value.rec (motive_1 := fun _ => (ByteArray → Bool) → Bool) (motive_2 := M2) (motive_3 := M3)
    (fun _ _ => false) (fun _ _ _ => false) (fun _ _ _ => false) (fun _ _ _ _ => false) (fun s k => k s) (fun _ _ => false) (fun _ _ _ _ => false) (fun _ _ => false) (fun _ _ => false)
    (fun _ _ _ _ _ _ => false) (fun _ => false) (fun _ _ _ _ => false) (fun _ => false) (fun _ _ _ => false) (fun _ _ _ => false) (fun _ _ => ()) () (fun _ _ _ _ => ()) v
/-- Of an address without a spot. -/
noncomputable def addrK (a : Option Addr) : (Nat → Nat → Bool) → Bool :=
  Option.rec (motive := fun _ => (Nat → Nat → Bool) → Bool) (fun _ => false)
    (fun a => Addr.rec (motive := fun _ => (Nat → Nat → Bool) → Bool) (fun b o s => Option.rec (motive := fun _ => (Nat → Nat → Bool) → Bool) (fun k => k b o) (fun _ _ => false) s) a) a
noncomputable def ptrK (v : Value) : (Nat → Nat → Bool) → Bool :=
  Value.rec (motive_1 := fun _ => (Nat → Nat → Bool) → Bool) (motive_2 := M2) (motive_3 := M3)
    (fun _ _ => false) (fun _ _ _ => false) (fun _ _ _ => false) (fun _ _ _ _ => false) (fun _ _ => false) (fun a => addrK a) (fun _ _ _ _ => false) (fun _ _ => false) (fun _ _ => false)
    (fun _ _ _ _ _ _ => false) (fun _ => false) (fun _ _ _ _ => false) (fun _ => false) (fun _ _ _ => false) (fun _ _ _ => false) (fun _ _ => ()) () (fun _ _ _ _ => ()) v
noncomputable def sliceK (v : Value) : (Option Addr → Nat → Nat → Bool) → Bool :=
  Value.rec (motive_1 := fun _ => (Option Addr → Nat → Nat → Bool) → Bool) (motive_2 := M2) (motive_3 := M3)
    (fun _ _ => false) (fun _ _ _ => false) (fun _ _ _ => false) (fun _ _ _ _ => false) (fun _ _ => false) (fun _ _ => false) (fun a l c k => k a l c) (fun _ _ => false) (fun _ _ => false)
    (fun _ _ _ _ _ _ => false) (fun _ => false) (fun _ _ _ _ => false) (fun _ => false) (fun _ _ _ => false) (fun _ _ _ => false) (fun _ _ => ()) () (fun _ _ _ _ => ()) v
noncomputable def aggK (v : Value) : (Array Value → Bool) → Bool :=
  Value.rec (motive_1 := fun _ => (Array Value → Bool) → Bool) (motive_2 := M2) (motive_3 := M3)
    (fun _ _ => false) (fun _ _ _ => false) (fun _ _ _ => false) (fun _ _ _ _ => false) (fun _ _ => false) (fun _ _ => false) (fun _ _ _ _ => false) (fun _ _ => false) (fun _ _ => false)
    (fun _ _ _ _ _ _ => false) (fun _ => false) (fun _ _ _ _ => false) (fun _ => false) (fun c _ k => k c) (fun _ _ _ => false) (fun _ _ => ()) () (fun _ _ _ _ => ()) v
noncomputable def tupK (v : Value) : (Array Value → Bool) → Bool :=
  Value.rec (motive_1 := fun _ => (Array Value → Bool) → Bool) (motive_2 := M2) (motive_3 := M3)
    (fun _ _ => false) (fun _ _ _ => false) (fun _ _ _ => false) (fun _ _ _ _ => false) (fun _ _ => false) (fun _ _ => false) (fun _ _ _ _ => false) (fun _ _ => false) (fun _ _ => false)
    (fun _ _ _ _ _ _ => false) (fun _ => false) (fun _ _ _ _ => false) (fun _ => false) (fun _ _ _ => false) (fun c _ k => k c) (fun _ _ => ()) () (fun _ _ _ _ => ()) v
/-- One cell of its own? -/
noncomputable def oneK (v : Value) : Bool :=
  Value.rec (motive_1 := fun _ => Bool) (motive_2 := M2) (motive_3 := M3)
    (fun _ => true) (fun _ _ => true) (fun _ _ => true) (fun _ _ _ => true) (fun _ => true) (fun _ => true) (fun _ _ _ => true) (fun _ => true) (fun _ => true)
    (fun _ _ _ _ _ => true) true (fun _ _ _ => true) true (fun _ _ => false) (fun _ _ => false) (fun _ _ => ()) () (fun _ _ _ _ => ()) v
/-- An int, or something else. -/
noncomputable def intOr (v : Value) : (IntKind → Int → Bool) → Bool → Bool :=
  Value.rec (motive_1 := fun _ => (IntKind → Int → Bool) → Bool → Bool) (motive_2 := M2) (motive_3 := M3)
    (fun _ _ f => f) (fun kd n k _ => k kd n) (fun _ _ _ f => f) (fun _ _ _ _ f => f) (fun _ _ f => f) (fun _ _ f => f) (fun _ _ _ _ f => f) (fun _ _ f => f) (fun _ _ f => f)
    (fun _ _ _ _ _ _ f => f) (fun _ f => f) (fun _ _ _ _ f => f) (fun _ f => f) (fun _ _ _ f => f) (fun _ _ _ f => f) (fun _ _ => ()) () (fun _ _ _ _ => ()) v
end
/-- A text, or something else. -/
noncomputable def strOr (v : Value) : (ByteArray → Bool) → Bool → Bool :=
  Value.rec (motive_1 := fun _ => (ByteArray → Bool) → Bool → Bool) (motive_2 := M2) (motive_3 := M3)
    (fun _ _ f => f) (fun _ _ _ f => f) (fun _ _ _ f => f) (fun _ _ _ _ f => f) (fun s k _ => k s) (fun _ _ f => f) (fun _ _ _ _ f => f) (fun _ _ f => f) (fun _ _ f => f)
    (fun _ _ _ _ _ _ f => f) (fun _ f => f) (fun _ _ _ _ f => f) (fun _ f => f) (fun _ _ _ f => f) (fun _ _ _ f => f) (fun _ _ => ()) () (fun _ _ _ _ => ()) v
/-- A bool, or something else. -/
noncomputable def boolOr (v : Value) : (Bool → Bool) → Bool → Bool :=
  Value.rec (motive_1 := fun _ => (Bool → Bool) → Bool → Bool) (motive_2 := M2) (motive_3 := M3)
    (fun b k _ => k b) (fun _ _ _ f => f) (fun _ _ _ f => f) (fun _ _ _ _ f => f) (fun _ _ f => f) (fun _ _ f => f) (fun _ _ _ _ f => f) (fun _ _ f => f) (fun _ _ f => f)
    (fun _ _ _ _ _ _ f => f) (fun _ f => f) (fun _ _ _ _ f => f) (fun _ f => f) (fun _ _ _ f => f) (fun _ _ _ f => f) (fun _ _ => ()) () (fun _ _ _ _ => ()) v
noncomputable def optK (o : Option (Value × H)) : (Value → H → Bool) → Bool :=
  Option.rec (motive := fun _ => (Value → H → Bool) → Bool) (fun _ => false) (fun p => Prod.rec (motive := fun _ => (Value → H → Bool) → Bool) (fun v A k => k v A) p) o
noncomputable def optA {α : Type} (o : Option α) : (α → Bool) → Bool :=
  Option.rec (motive := fun _ => (α → Bool) → Bool) (fun _ => false) (fun p k => k p) o

/-! ### Lists -/
noncomputable def nthK {α : Type} (i : Nat) : List α → (α → Bool) → Bool :=
  Nat.rec (motive := fun _ => List α → (α → Bool) → Bool) (fun l => List.rec (motive := fun _ => (α → Bool) → Bool) (fun _ => false) (fun v _ _ k => k v) l)
    (fun _ ih l => List.rec (motive := fun _ => (α → Bool) → Bool) (fun _ => false) (fun _ r _ => ih r) l) i
noncomputable def setNK (i : Nat) : List Value → Value → (List Value → Bool) → Bool :=
  Nat.rec (motive := fun _ => List Value → Value → (List Value → Bool) → Bool) (fun l => List.rec (motive := fun _ => Value → (List Value → Bool) → Bool) (fun _ _ => false) (fun _ r _ v k => k (v :: r)) l)
    (fun _ ih l => List.rec (motive := fun _ => Value → (List Value → Bool) → Bool) (fun _ _ => false) (fun x r _ v k => ih r v fun r' => k (x :: r')) l) i

/-! ### The heap -/
def pathF : Nat → Nat → List Bool
  | 0, _ => []
  | d + 1, k => bif Nat.beq k 0 then [] else bif Nat.beq (Nat.mod k 2) 1 then true :: pathF d (Nat.div k 2) else false :: pathF d (Nat.sub (Nat.div k 2) 1)
def pathOf (k : Nat) : List Bool := pathF (Nat.succ k) k
section
variable {α : Type}
noncomputable def getP : List Bool → Tr α → Option α :=
  List.rec (motive := fun _ => Tr α → Option α) (fun t => Tr.rec (motive := fun _ => Option α) none (fun v _ _ _ _ => v) t)
    (fun b _ ih t => Tr.rec (motive := fun _ => Option α) none (fun _ l r _ _ => Bool.rec (motive := fun _ => Option α) (ih r) (ih l) b) t)
noncomputable def putP : List Bool → Option α → Tr α → Tr α :=
  List.rec (motive := fun _ => Option α → Tr α → Tr α) (fun x t => Tr.rec (motive := fun _ => Tr α) (.node x .nil .nil) (fun _ l r _ _ => .node x l r) t)
    (fun b _ ih x t => Tr.rec (motive := fun _ => Tr α) (Bool.rec (motive := fun _ => Tr α) (.node none .nil (ih x .nil)) (.node none (ih x .nil) .nil) b)
      (fun v l r _ _ => Bool.rec (motive := fun _ => Tr α) (.node v l (ih x r)) (.node v (ih x l) r) b) t)
end
/-- The cells of a block. -/
noncomputable def cellsK (A : H) (b : Nat) : (Bool → TypeId → List Value → Bool) → Bool :=
  Option.rec (motive := fun _ => (Bool → TypeId → List Value → Bool) → Bool) (fun _ => false)
    (fun o => AObj.rec (motive := fun _ => (Bool → TypeId → List Value → Bool) → Bool) (fun ro e c k => k ro e c) (fun _ _ _ => false) (fun _ _ _ => false) o) (getP (pathOf b) A.t)
noncomputable def setHK (A : H) (b : Nat) (o : AObj) (k : H → Bool) : Bool :=
  H.rec (motive := fun _ => Bool) (fun t n => k ⟨putP (pathOf b) (some o) t, n⟩) A
noncomputable def pushHK (A : H) (o : AObj) (k : Nat → H → Bool) : Bool :=
  H.rec (motive := fun _ => Bool) (fun t n => natK (Nat.succ n) fun m => k n ⟨putP (pathOf n) (some o) t, m⟩) A

/-! ### Numbers -/
noncomputable def idx (k : IntKind) : Nat := IntKind.rec (motive := fun _ => Nat) 0 1 2 3 4 5 6 7 k
/-- Below this a number that is not negative is as it is. -/
noncomputable def lim (k : IntKind) : Nat := IntKind.rec (motive := fun _ => Nat) 128 32768 2147483648 9223372036854775808 256 65536 4294967296 18446744073709551616 k
noncomputable def bitsK (k : IntKind) : Nat := IntKind.rec (motive := fun _ => Nat) 8 16 32 64 8 16 32 64 k
noncomputable def wrapN (kd : IntKind) (a : Nat) (k : Int → Bool) : Bool :=
  Bool.rec (motive := fun _ => Bool) (k (kd.wrap (Int.ofNat a))) (natK a fun r => k (Int.ofNat r)) (Nat.blt a (lim kd))
noncomputable def wrapK (kd : IntKind) (n : Int) : (Int → Bool) → Bool :=
  Int.rec (motive := fun _ => (Int → Bool) → Bool) (fun a k => wrapN kd a k) (fun a k => k (kd.wrap (Int.negSucc a))) n
/-- Two numbers that are not negative, or others. -/
noncomputable def nat2 (x y : Int) : (Nat → Nat → Bool) → Bool → Bool :=
  Int.rec (motive := fun _ => (Nat → Nat → Bool) → Bool → Bool) (fun a => Int.rec (motive := fun _ => (Nat → Nat → Bool) → Bool → Bool) (fun b k _ => k a b) (fun _ _ f => f) y) (fun _ _ f => f) x
abbrev IOp := IntKind → Int → Int → (Value → Bool) → Bool → Bool
noncomputable def addK : IOp := fun kd x y k f => nat2 x y (fun a b => wrapN kd (Nat.add a b) fun r => k (.int kd r)) f
noncomputable def subK : IOp := fun kd x y k f => nat2 x y (fun a b => Bool.rec (motive := fun _ => Bool) f (wrapN kd (Nat.sub a b) fun r => k (.int kd r)) (Nat.ble b a)) f
noncomputable def mulK : IOp := fun kd x y k f => nat2 x y (fun a b => wrapN kd (Nat.mul a b) fun r => k (.int kd r)) f
noncomputable def remK : IOp := fun kd x y k f => nat2 x y (fun a b => Bool.rec (motive := fun _ => Bool) (natK (Nat.mod a b) fun r => k (.int kd (Int.ofNat r))) f (Nat.beq b 0)) f
noncomputable def landK (op : Nat → Nat → Nat) : IOp := fun kd x y k f => nat2 x y (fun a b => Bool.rec (motive := fun _ => Bool) f (Bool.rec (motive := fun _ => Bool) f (natK (op a b) fun r => k (.int kd (Int.ofNat r))) (Nat.blt b (lim kd))) (Nat.blt a (lim kd))) f
noncomputable def shlK : IOp := fun kd x y k f => nat2 x y (fun a b => Bool.rec (motive := fun _ => Bool) f (wrapN kd (Nat.mul a (Nat.pow 2 b)) fun r => k (.int kd r)) (Nat.ble b (bitsK kd))) f
noncomputable def shrK : IOp := fun kd x y k f => nat2 x y (fun a b => Bool.rec (motive := fun _ => Bool) f (natK (Nat.div a (Nat.pow 2 b)) fun r => k (.int kd (Int.ofNat r))) (Nat.ble b (bitsK kd))) f
noncomputable def eqK : IOp := fun _ x y k f => nat2 x y (fun a b => k (.bool (Nat.beq a b))) f
noncomputable def neK : IOp := fun _ x y k f => nat2 x y (fun a b => k (.bool (not (Nat.beq a b)))) f
noncomputable def ltK : IOp := fun _ x y k f => nat2 x y (fun a b => k (.bool (Nat.blt a b))) f
noncomputable def leK : IOp := fun _ x y k f => nat2 x y (fun a b => k (.bool (Nat.ble a b))) f
noncomputable def gtK : IOp := fun _ x y k f => nat2 x y (fun a b => k (.bool (Nat.blt b a))) f
noncomputable def geK : IOp := fun _ x y k f => nat2 x y (fun a b => k (.bool (Nat.ble b a))) f
noncomputable def noK : IOp := fun _ _ _ _ f => f
/-- Of two ints of one kind; shifts ask no one kind. -/
noncomputable def iopK (op : BinOp) : IOp := BinOp.rec (motive := fun _ => IOp) addK subK mulK noK remK (landK Nat.land) (landK Nat.lor) (landK Nat.xor) shlK shrK noK eqK neK ltK leK gtK geK op
noncomputable def isShift (op : BinOp) : Bool := BinOp.rec (motive := fun _ => Bool) false false false false false false false false true true false false false false false false false op
noncomputable def binK (op : BinOp) (d : TypeDesc) (a b : Value) (k : Value → Bool) : Bool :=
  intOr a (fun ka x => intOr b (fun kb y => Bool.rec (motive := fun _ => Bool) (optA (binA op d a b) k) (iopK op ka x y k (optA (binA op d a b) k)) (or (isShift op) (Nat.beq (idx ka) (idx kb)))) (optA (binA op d a b) k)) (optA (binA op d a b) k)

/-! ### Operations -/
abbrev CallK := FuncId → List Value → H → (Value → H → Bool) → Bool
abbrev OpK := TK → H → CallK → (Value → H → Bool) → Bool
noncomputable def slowK (op : XOp) : OpK := fun T A _ k => optK (evalOp op (fun o => rdK o T) A) k
noncomputable def one1 (n : Nat) (agg : Bool) : Bool := Bool.rec (motive := fun _ => Bool) (Nat.beq n 1) false agg
noncomputable def kMove (x : Operand) : OpK := fun T A _ k => k (rdK x T) A
noncomputable def kPick (c a b : Operand) : OpK := fun T A _ k => boolK (rdK c T) fun t => k (Bool.rec (motive := fun _ => Value) (rdK b T) (rdK a T) t) A
noncomputable def kAlloc (e : TypeId) (z : List Value) : OpK := fun _ A _ k => pushHK A (.cells false e z) fun n A' => k (.pointer (some ⟨n, 0, none⟩)) A'
noncomputable def kBox (e : TypeId) (x : Operand) : OpK := fun T A _ k => pushHK A (.cells false e (cellsL (rdK x T))) fun n A' => k (.pointer (some ⟨n, 0, none⟩)) A'
noncomputable def kLoad (n : Nat) (agg : Bool) (a : Operand) : OpK := fun T A _ k => ptrK (rdK a T) fun b o => cellsK A b fun _ _ c =>
  Bool.rec (motive := fun _ => Bool) (optA (cut c o n) fun l => optA (oneV agg l) fun v => k v A) (nthK o c fun v => k v A) (one1 n agg)
noncomputable def kStore (n : Nat) (a x : Operand) : OpK := fun T A c k =>
  Bool.rec (motive := fun _ => Bool) (slowK (.store n a x) T A c k)
    (ptrK (rdK a T) fun b o => cellsK A b fun ro e c => Bool.rec (motive := fun _ => Bool) (setNK o c (rdK x T) fun c' => setHK A b (.cells false e c') fun A' => k noV A') false ro)
    (and (Nat.beq n 1) (oneK (rdK x T)))
noncomputable def kNil (x : Operand) : OpK := fun T A _ k => ptrK (rdK x T) fun b o => k (.pointer (some ⟨b, o, none⟩)) A
noncomputable def kBin (op : BinOp) (d : TypeDesc) (x y : Operand) : OpK := fun T A _ k => binK op d (rdK x T) (rdK y T) fun v => k v A
noncomputable def kUn (op : UnOp) (x : Operand) : OpK := fun T A c k => UnOp.rec (motive := fun _ => Bool) (slowK (.un op x) T A c k) (slowK (.un op x) T A c k) (boolK (rdK x T) fun b => k (.bool (not b)) A) (slowK (.un op x) T A c k) op
noncomputable def kToInt (kd : IntKind) (x : Operand) : OpK := fun T A c k => intOr (rdK x T) (fun _ n => wrapK kd n fun m => k (.int kd m) A) (slowK (.toInt kd x) T A c k)
noncomputable def kField (off : Nat) (x : Operand) : OpK := fun T A _ k => ptrK (rdK x T) fun b o => natK (Nat.add o off) fun s => k (.pointer (some ⟨b, s, none⟩)) A
noncomputable def ofNatK (n : Int) : (Nat → Bool) → Bool := Int.rec (motive := fun _ => (Nat → Bool) → Bool) (fun a k => k a) (fun _ _ => false) n
noncomputable def kIndexAddr (arr : Option Nat) (size : Nat) (x i : Operand) : OpK := fun T A _ k => intK (rdK i T) fun _ n => ofNatK n fun m =>
  Option.rec (motive := fun _ => Bool)
    (sliceK (rdK x T) fun a l _ => addrK a fun b o => Bool.rec (motive := fun _ => Bool) false (natK (Nat.add o (Nat.mul m size)) fun s => k (.pointer (some ⟨b, s, none⟩)) A) (Nat.blt m l))
    (fun l => ptrK (rdK x T) fun b o => Bool.rec (motive := fun _ => Bool) false (natK (Nat.add o (Nat.mul m size)) fun s => k (.pointer (some ⟨b, s, none⟩)) A) (Nat.blt m l)) arr
noncomputable def kFld (off size : Nat) (agg : Bool) (x : Operand) : OpK := fun T A _ k => aggK (rdK x T) fun cs =>
  Bool.rec (motive := fun _ => Bool) (optA (cut cs.toList off size) fun l => optA (oneV agg l) fun v => k v A) (nthK off cs.toList fun v => k v A) (one1 size agg)
noncomputable def kIndex (arr : Option (Nat × Nat × Bool)) (x i : Operand) : OpK := fun T A c k =>
  Option.rec (motive := fun _ => Bool) (intK (rdK i T) fun _ n => ofNatK n fun m => strOr (rdK x T) (fun s => nthK m (bytesOf s) fun b => natK b.toNat fun r => k (.int .u8 (Int.ofNat r)) A) (slowK (.index arr x i) T A c k))
    (fun _ => slowK (.index arr x i) T A c k) arr
noncomputable def kExtract (x : Operand) (i : Nat) : OpK := fun T A _ k => tupK (rdK x T) fun vs => nthK i vs.toList fun v => k v A
noncomputable def kLen (arr : Option Nat) (x : Operand) : OpK := fun T A _ k =>
  Option.rec (motive := fun _ => Bool) (sliceK (rdK x T) fun _ l _ => k (.int .i64 (Int.ofNat l)) A) (fun n => k (.int .i64 (Int.ofNat n)) A) arr
noncomputable def kLenStr (x : Operand) : OpK := fun T A c k => strOr (rdK x T) (fun s => natK (bytesOf s).length fun n => k (.int .i64 (Int.ofNat n)) A) (slowK (.lenStr x) T A c k)
noncomputable def mapR (T : TK) (l : List Operand) : List Value := List.rec (motive := fun _ => List Value) [] (fun o _ ih => rdK o T :: ih) l
noncomputable def kCall (f : FuncId) (args : List Operand) : OpK := fun T A c k => c f (mapR T args) A k
noncomputable def kCallV (f : Operand) (args : List Operand) : OpK := fun T A c k => optA (calleeA (rdK f T) (mapR T args)) fun p => c p.1 p.2 A k
noncomputable def kCallI (find : TypeId → Option FuncId) (r : Operand) (args : List Operand) : OpK := fun T A c k => optA (calleeM find (rdK r T) (mapR T args)) fun p => c p.1 p.2 A k
noncomputable def kOp (op : XOp) : OpK :=
  XOp.rec (motive := fun _ => OpK) kMove kPick kAlloc kBox (fun z ps => slowK (.build z ps)) (fun e n z ps => slowK (.buildSlice e n z ps)) kLoad kStore kNil kBin kUn kToInt (fun x => slowK (.toUnsafe x)) (fun u z x => slowK (.assert u z x)) (fun g x y => slowK (.isNil g x y)) (fun g l x y => slowK (.eqS g l x y)) (fun x => slowK (.same x))
    (fun e x => slowK (.toBytes e x)) (fun x => slowK (.ofBytes x)) kField kIndexAddr kFld kIndex (fun x lo hi => slowK (.sliceStr x lo hi)) (fun e s a x lo hi mx => slowK (.slice e s a x lo hi mx)) kExtract
    (fun t x T A _ k => k (.iface t (rdK x T)) A) (fun fn fs cs => slowK (.makeFunc fn fs cs)) (slowK .makeMap) (fun d m k x => slowK (.mapPut d m k x)) (fun d z m k ok => slowK (.lookup d z m k ok)) (fun d m k => slowK (.mapDel d m k))
    (fun e b s z l c => slowK (.makeSlice e b s z l c)) (fun x => slowK (.rangeStr x)) (fun x => slowK (.nextStr x)) kCall kCallV kCallI kLen kLenStr (fun e s b x y => slowK (.append e s b x y)) (fun s x y => slowK (.copy s x y))
    (fun z x => slowK (.clear z x)) (fun m xs => slowK (.minmax m xs)) (fun kd xs => slowK (.ext kd xs)) (fun _ _ _ _ _ => false) op

/-! ### Code -/
abbrev ContK := TK → H → Bool
noncomputable def putD (d : Option Tmp) (v : Value) (T : TK) (k : TK → Bool) : Bool := Option.rec (motive := fun _ => Bool) (k T) (fun i => putT i v T k) d
noncomputable def guardK (g : Option (Tmp × Bool)) (T : TK) : (Bool → Bool) → Bool :=
  Option.rec (motive := fun _ => (Bool → Bool) → Bool) (fun k => k true) (fun p k => boolOr (rdT p.1 T) (fun b => k (Bool.rec (motive := fun _ => Bool) (not p.2) p.2 b)) (k false)) g
noncomputable def kOne (o : XOper) (T : TK) (A : H) (c : CallK) (k : ContK) : Bool :=
  XOper.rec (motive := fun _ => TK → H → CallK → ContK → Bool)
    (fun dst g op T A c k => guardK g T fun w => Bool.rec (motive := fun _ => Bool) (putD dst noV T fun T' => k T' A) (kOp op T A c fun v A' => putD dst v T fun T' => k T' A') w) o T A c k
noncomputable def kOps (l : List XOper) : TK → H → CallK → ContK → Bool :=
  List.rec (motive := fun _ => TK → H → CallK → ContK → Bool) (fun T A _ k => k T A) (fun o _ ih T A c k => kOne o T A c fun T' A' => ih T' A' c k) l
def wantedR (ρ : Operand → Value) : Option (Tmp × Bool) → Bool
  | none => true
  | some (g, w) => match ρ (.tmp g) with
    | .bool b => b == w
    | _ => false
def againR (ρ : Operand → Value) (A : H) (o : XOper) : Bool :=
  bif wantedR ρ o.guard then
    match evalOp o.op ρ A with
    | some (v, _) => match o.dst with
      | some d => sameV v (ρ (.tmp d))
      | none => true
    | none => false
  else true
noncomputable def allK (ρ : Operand → Value) (A : H) (l : List XOper) : Bool := List.rec (motive := fun _ => Bool) true (fun o _ ih => Bool.rec (motive := fun _ => Bool) false ih (againR ρ A o)) l
noncomputable def kDraw (l : List (XOper × List XOper)) : TK → H → CallK → ContK → Bool :=
  List.rec (motive := fun _ => TK → H → CallK → ContK → Bool) (fun T A _ k => k T A)
    (fun p _ ih T A c k => kOne p.1 T A c fun T' A' => Bool.rec (motive := fun _ => Bool) false (ih T' A' c k) (allK (fun o => rdK o T') A' p.2)) l
/-- How often a loop goes round at most. -/
def roundsK : Nat := 1000000
noncomputable def loopK (body : ContK → ContK) (n : Nat) : ContK := Nat.rec (motive := fun _ => ContK) (fun _ _ => false) (fun _ self T A => body self T A) n
noncomputable def kC (c : XCode) : CallK → (Nat → ContK) → ContK → ContK → ContK :=
  XCode.rec (motive := fun _ => CallK → (Nat → ContK) → ContK → ContK → ContK)
    (fun _ _ _ k T A => k T A) (fun l c _ _ k T A => kOps l T A c k) (fun l c _ _ k T A => kDraw l T A c k)
    (fun _ _ iha ihb c env ret k T A => iha c env ret (fun T A => ihb c env ret k T A) T A)
    (fun x _ _ iha ihb c env ret k T A => boolK (rdK x T) fun b => Bool.rec (motive := fun _ => Bool) (ihb c env ret k T A) (iha c env ret k T A) b)
    (fun id _ ih c env ret k T A => ih c (fun i T A => Bool.rec (motive := fun _ => Bool) (env i T A) (k T A) (Nat.beq i id)) ret k T A)
    (fun _ ih c env ret _ T A => loopK (fun self T A => ih c env ret self T A) roundsK T A)
    (fun id _ env _ _ T A => env id T A) (fun _ _ ret _ T A => ret T A) (fun _ _ _ _ _ _ _ => false) c

noncomputable def argsK (l : List Value) : Nat → TK → (TK → Bool) → Bool :=
  List.rec (motive := fun _ => Nat → TK → (TK → Bool) → Bool) (fun _ T k => k T) (fun v _ ih i T k => putT i v T fun T' => ih (Nat.succ i) T' k) l
noncomputable def resultsK (l : List (Nat × Option (Nat × Bool))) : TK → H → (List Value → Bool) → Bool :=
  List.rec (motive := fun _ => TK → H → (List Value → Bool) → Bool) (fun _ _ k => k [])
    (fun p _ ih T A k => Option.rec (motive := fun _ => Bool) (ih T A fun vs => k (rdT p.1 T :: vs))
      (fun q => ptrK (rdT p.1 T) fun b o => cellsK A b fun _ _ c => optA (cut c o q.1) fun l => optA (oneV q.2 l) fun v => ih T A fun vs => k (v :: vs)) p.2) l
abbrev KNat := CallK → List Value → H → (Value → H → Bool) → Bool
section
variable (code : FuncId → Option XFun) (nats : FuncId → Option KNat)
noncomputable def runFK (x : XFunc) (self : CallK) (args : List Value) (A : H) (k : Value → H → Bool) : Bool :=
  Bool.rec (motive := fun _ => Bool) false
    (argsK args 0 TK.none fun T => kC x.body self (fun _ _ _ => false) (fun T A => resultsK x.results T A fun vs => k (resultV vs) A) (fun T A => resultsK x.results T A fun vs => k (resultV vs) A) T A) (Nat.ble args.length x.ntmps)
/-- A deferred call at a normal end. -/
noncomputable def lateK (self : CallK) (g : FuncId) (dl : List Value) (A : H) (k : H → Bool) : Bool :=
  Option.rec (motive := fun _ => Bool) false (fun xf => XFun.rec (motive := fun _ => Bool)
    (fun x => Bool.rec (motive := fun _ => Bool) false
      (argsK dl 0 TK.none fun T => kC x.late self (fun _ _ _ => false) (fun _ A => k A) (fun _ A => k A) T A) (and (Nat.ble dl.length x.ntmps) x.results.isEmpty))
    (fun _ _ _ _ _ _ => false) (fun _ => false) xf) (code g)
noncomputable def runDK (nt : Nat) (rs : List (Nat × Option (Nat × Bool))) (x : XCode) (fo : Operand) (das : List Operand) (y : XCode) (self : CallK) (args : List Value) (A : H) (k : Value → H → Bool) : Bool :=
  Bool.rec (motive := fun _ => Bool) false
    (argsK args 0 TK.none fun T => kC x self (fun _ _ _ => false) (fun _ _ => false) (fun T A => optA (calleeA (rdK fo T) (mapR T das)) fun q =>
      kC y self (fun _ _ _ => false) (fun T A => lateK code self q.1 q.2 A fun A => resultsK rs T A fun vs => k (resultV vs) A) (fun T A => lateK code self q.1 q.2 A fun A => resultsK rs T A fun vs => k (resultV vs) A) T A) T A) (Nat.ble args.length nt)
noncomputable def kF (n : Nat) : CallK :=
  Nat.rec (motive := fun _ => CallK) (fun _ _ _ _ => false)
    (fun _ self f args A k => Option.rec (motive := fun _ => Bool)
      (Option.rec (motive := fun _ => Bool) false (fun xf => XFun.rec (motive := fun _ => Bool) (fun x => runFK x self args A k) (fun nt rs x fo das y => runDK code nt rs x fo das y self args A k) (fun _ => false) xf) (code f))
      (fun g => g self args A k) (nats f)) n
end
end Go.Ab
