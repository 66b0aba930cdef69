/- What some functions do to the abstract heap, told at once: strings.Repeat, strings.Builder's copyCheck and String, sync.Once's doSlow. -/
/- The interpreter once more, told so that the kernel goes through it with little: recursors, answers handed on, temporaries in a tree of eights. -/
/- What the quick interpreter says, the interpreter says. -/
/- The quick interpreter's numbers. -/
/- Functions whose answers are told, for the quick interpreter. -/
/- The quick interpreter's operations and code: what it says, the interpreter says. -/
/- The quick forms of the told answers. -/
import Derived.Test.YthlpiipobcomfaaGreatDoorAcEval
import Derived.Test.YthlpiipobcomfaaGreatDoorAcFun
set_option linter.all false
set_option linter.unusedSectionVars false
set_option linter.unusedVariables false
set_option linter.unusedSimpArgs false
namespace Go.Ab
open Go

def rep (l : List UInt8) : Nat → List UInt8
  | 0 => []
  | c + 1 => l ++ rep l c
def repeatA : Caller → List Value → H → Option (Value × H)
  | _, [.string s, .int .i64 c], A => if 0 ≤ c ∧ c ≤ 9223372036854775807 ∧ (bytesOf s).length * c.toNat ≤ 140737488355328 then some (.string (ofBytes (rep (bytesOf s) c.toNat)), A) else none
  | _, _, _ => none

def copyCheckA (T : TypeId) : Caller → List Value → H → Option (Value × H)
  | _, [.pointer (some ⟨id, off, none⟩)], A => match A.get id with
    | some (.cells false e c) => bif Nat.beq e T && Nat.beq (off % 2) 0 && Nat.ble (off + 2) c.length then
        match loadA A ⟨id, off, none⟩ 1 with
        | some [.pointer none] => (storeA A ⟨id, off, none⟩ [.pointer (some ⟨id, off, none⟩)]).map fun A' => (.tuple #[], A')
        | some [.pointer (some ⟨i, o, none⟩)] => bif Nat.beq i id && Nat.beq o off then some (.tuple #[], A) else none
        | _ => none
      else none
    | _ => none
  | _, _, _ => none

def stringA (B : TypeId) : Caller → List Value → H → Option (Value × H)
  | _, [.pointer (some ⟨id, off, none⟩)], A => match loadA A ⟨id, off + 1, none⟩ 1 with
    | some [.slice none l _] => bif Nat.beq l 0 then some (.string (ofBytes []), A) else none
    | some [.slice (some ⟨i, o, none⟩) n c] => match A.get i with
      | some (.cells false e cs) => bif Nat.beq e B && Nat.ble 1 n && Nat.ble n 9223372036854775807 && Nat.ble 1 c then
          (loadA A ⟨i, o, none⟩ n).bind fun l => (mkStr l).map fun v => (v, A.set i (.cells true e cs))
        else none
      | _ => none
    | _ => none
  | _, _, _ => none

def onceA (lock load store unlock : FuncId) : Caller → List Value → H → Option (Value × H)
  | call, [.pointer (some ⟨id, off, none⟩), f], A =>
    match call lock [.pointer (some ⟨id, off + 1, none⟩)] A with
    | none => none
    | some (_, A1) => match call load [.pointer (some ⟨id, off, none⟩)] A1 with
      | some (.bool false, A2) => match calleeA f [] with
        | none => none
        | some (g, as) => match call g as A2 with
          | none => none
          | some (_, A3) => match call store [.pointer (some ⟨id, off, none⟩), .bool true] A3 with
            | none => none
            | some (_, A4) => match call unlock [.pointer (some ⟨id, off + 1, none⟩)] A4 with
              | none => none
              | some (_, A5) => some (.tuple #[], A5)
      | _ => none
  | _, _, _ => none
/-- A byte's first place, or -1. -/
def idxB (c : UInt8) : List UInt8 → Nat → Int
  | [], _ => -1
  | b :: l, i => bif Nat.beq b.toNat c.toNat then Int.ofNat i else idxB c l (i + 1)
def indexByteA : Caller → List Value → H → Option (Value × H)
  | _, [.string s, .int .u8 c], A => some (.int .i64 (idxB (UInt8.ofNat c.toNat) (bytesOf s) 0), A)
  | _, _, _ => none
def textsV : List Value → Option (List (List UInt8))
  | [] => some []
  | .string s :: l => (textsV l).map (bytesOf s :: ·)
  | _ => none
def joinTl (sep : List UInt8) : List (List UInt8) → List UInt8
  | [] => []
  | x :: l => sep ++ x ++ joinTl sep l
def joinL (sep : List UInt8) : List (List UInt8) → List UInt8
  | [] => []
  | x :: l => x ++ joinTl sep l
def joinA : Caller → List Value → H → Option (Value × H)
  | _, [.slice (some ⟨id, off, none⟩) n c, .string sep], A => (loadA A ⟨id, off, none⟩ n).bind fun l => (textsV l).bind fun xs =>
    let r := joinL (bytesOf sep) xs
    bif Nat.ble n c && Nat.ble n 140737488355328 && Nat.ble r.length 140737488355328 then some (.string (ofBytes r), A) else none
  | _, _, _ => none
end Go.Ab
namespace Go.Ab
open Go

/-! ### A tree of eights: the temporaries -/
inductive D8 where
  | d0 | d1 | d2 | d3 | d4 | d5 | d6 | d7
  deriving DecidableEq
structure N8 (α : Type) where
  f0 : α
  f1 : α
  f2 : α
  f3 : α
  f4 : α
  f5 : α
  f6 : α
  f7 : α
section
variable {α : Type}
noncomputable def sel8 (d : D8) : N8 α → α :=
  D8.rec (motive := fun _ => N8 α → α) (fun n => n.f0) (fun n => n.f1) (fun n => n.f2) (fun n => n.f3) (fun n => n.f4) (fun n => n.f5) (fun n => n.f6) (fun n => n.f7) d
/-- One part changed; it goes on with the whole. -/
noncomputable def put8 (d : D8) : (α → (α → Bool) → Bool) → N8 α → (N8 α → Bool) → Bool :=
  D8.rec (motive := fun _ => (α → (α → Bool) → Bool) → N8 α → (N8 α → Bool) → Bool)
    (fun g n k => N8.rec (motive := fun _ => Bool) (fun a b c d e f x y => g a fun z => k ⟨z, b, c, d, e, f, x, y⟩) n)
    (fun g n k => N8.rec (motive := fun _ => Bool) (fun a b c d e f x y => g b fun z => k ⟨a, z, c, d, e, f, x, y⟩) n)
    (fun g n k => N8.rec (motive := fun _ => Bool) (fun a b c d e f x y => g c fun z => k ⟨a, b, z, d, e, f, x, y⟩) n)
    (fun g n k => N8.rec (motive := fun _ => Bool) (fun a b c d e f x y => g d fun z => k ⟨a, b, c, z, e, f, x, y⟩) n)
    (fun g n k => N8.rec (motive := fun _ => Bool) (fun a b c d e f x y => g e fun z => k ⟨a, b, c, d, z, f, x, y⟩) n)
    (fun g n k => N8.rec (motive := fun _ => Bool) (fun a b c d e f x y => g f fun z => k ⟨a, b, c, d, e, z, x, y⟩) n)
    (fun g n k => N8.rec (motive := fun _ => Bool) (fun a b c d e f x y => g x fun z => k ⟨a, b, c, d, e, f, z, y⟩) n)
    (fun g n k => N8.rec (motive := fun _ => Bool) (fun a b c d e f x y => g y fun z => k ⟨a, b, c, d, e, f, x, z⟩) n) d
def rep8 (x : α) : N8 α := ⟨x, x, x, x, x, x, x, x⟩
end
abbrev TK := N8 (N8 (N8 Value))
def noV : Value := .tuple #[]
def TK.none : TK := rep8 (rep8 (rep8 noV))
def toD8 : Nat → D8
  | 0 => .d0 | 1 => .d1 | 2 => .d2 | 3 => .d3 | 4 => .d4 | 5 => .d5 | 6 => .d6 | _ => .d7
structure P3 where
  a : D8
  b : D8
  c : D8
def path3 (i : Nat) : P3 := ⟨toD8 (Nat.div i 64), toD8 (Nat.mod (Nat.div i 8) 8), toD8 (Nat.mod i 8)⟩
noncomputable def selT (p : P3) (T : TK) : Value := sel8 p.c (sel8 p.b (sel8 p.a T))
noncomputable def rdT (i : Nat) (T : TK) : Value := Bool.rec (motive := fun _ => Value) noV (selT (path3 i) T) (Nat.blt i 512)
noncomputable def putT (i : Nat) (v : Value) (T : TK) (k : TK → Bool) : Bool :=
  Bool.rec (motive := fun _ => Bool) false (put8 (path3 i).a (fun x => put8 (path3 i).b (fun y => put8 (path3 i).c (fun _ k => k v) y) x) T k) (Nat.blt i 512)

noncomputable def rdK (o : Operand) (T : TK) : Value :=
  Operand.rec (motive := fun _ => TK → Value) (fun i T => rdT i T) (fun v _ => v) (fun g _ => .pointer (some ⟨g, 0, Option.none⟩)) (fun f _ => .func (.func f) #[] #[]) o T

/-! ### Values taken apart -/
noncomputable def natK (n : Nat) (k : Nat → Bool) : Bool := Nat.rec (motive := fun _ => (Nat → Bool) → Bool) (fun k => k 0) (fun m _ k => k (Nat.succ m)) n k
section
abbrev M2 : Array Value → Type := fun _ => Unit
abbrev M3 : List Value → Type := fun _ => Unit
noncomputable def intK (v : Value) : (IntKind → Int → Bool) → Bool :=
  Value.rec (motive_1 := fun _ => (IntKind → Int → Bool) → Bool) (motive_2 := M2) (motive_3 := M3)
    (fun _ _ => false) (fun kd n k => k kd n) (fun _ _ _ => false) (fun _ _ _ _ => false) (fun _ _ => false) (fun _ _ => false) (fun _ _ _ _ => false) (fun _ _ => false) (fun _ _ => false)
    (fun _ _ _ _ _ _ => false) (fun _ => false) (fun _ _ _ _ => false) (fun _ => false) (fun _ _ _ => false) (fun _ _ _ => false) (fun _ _ => ()) () (fun _ _ _ _ => ()) v
noncomputable def boolK (v : Value) : (Bool → Bool) → Bool :=
  Value.rec (motive_1 := fun _ => (Bool → Bool) → Bool) (motive_2 := M2) (motive_3 := M3)
    (fun b k => k b) (fun _ _ _ => false) (fun _ _ _ => false) (fun _ _ _ _ => false) (fun _ _ => false) (fun _ _ => false) (fun _ _ _ _ => false) (fun _ _ => false) (fun _ _ => false)
    (fun _ _ _ _ _ _ => false) (fun _ => false) (fun _ _ _ _ => false) (fun _ => false) (fun _ _ _ => false) (fun _ _ _ => false) (fun _ _ => ()) () (fun _ _ _ _ => ()) v
noncomputable def strK (v : Value) : (ByteArray → Bool) → Bool :=
  Value.rec (motive_1 := fun _ => (ByteArray → Bool) → Bool) (motive_2 := M2) (motive_3 := M3)
    (fun _ _ => false) (fun _ _ _ => false) (fun _ _ _ => false) (fun _ _ _ _ => false) (fun s k => k s) (fun _ _ => false) (fun _ _ _ _ => false) (fun _ _ => false) (fun _ _ => false)
    (fun _ _ _ _ _ _ => false) (fun _ => false) (fun _ _ _ _ => false) (fun _ => false) (fun _ _ _ => false) (fun _ _ _ => false) (fun _ _ => ()) () (fun _ _ _ _ => ()) v
/-- Of an address without a spot. -/
noncomputable def addrK (a : Option Addr) : (Nat → Nat → Bool) → Bool :=
  Option.rec (motive := fun _ => (Nat → Nat → Bool) → Bool) (fun _ => false)
    (fun a => Addr.rec (motive := fun _ => (Nat → Nat → Bool) → Bool) (fun b o s => Option.rec (motive := fun _ => (Nat → Nat → Bool) → Bool) (fun k => k b o) (fun _ _ => false) s) a) a
noncomputable def ptrK (v : Value) : (Nat → Nat → Bool) → Bool :=
  Value.rec (motive_1 := fun _ => (Nat → Nat → Bool) → Bool) (motive_2 := M2) (motive_3 := M3)
    (fun _ _ => false) (fun _ _ _ => false) (fun _ _ _ => false) (fun _ _ _ _ => false) (fun _ _ => false) (fun a => addrK a) (fun _ _ _ _ => false) (fun _ _ => false) (fun _ _ => false)
    (fun _ _ _ _ _ _ => false) (fun _ => false) (fun _ _ _ _ => false) (fun _ => false) (fun _ _ _ => false) (fun _ _ _ => false) (fun _ _ => ()) () (fun _ _ _ _ => ()) v
noncomputable def sliceK (v : Value) : (Option Addr → Nat → Nat → Bool) → Bool :=
  Value.rec (motive_1 := fun _ => (Option Addr → Nat → Nat → Bool) → Bool) (motive_2 := M2) (motive_3 := M3)
    (fun _ _ => false) (fun _ _ _ => false) (fun _ _ _ => false) (fun _ _ _ _ => false) (fun _ _ => false) (fun _ _ => false) (fun a l c k => k a l c) (fun _ _ => false) (fun _ _ => false)
    (fun _ _ _ _ _ _ => false) (fun _ => false) (fun _ _ _ _ => false) (fun _ => false) (fun _ _ _ => false) (fun _ _ _ => false) (fun _ _ => ()) () (fun _ _ _ _ => ()) v
noncomputable def aggK (v : Value) : (Array Value → Bool) → Bool :=
  Value.rec (motive_1 := fun _ => (Array Value → Bool) → Bool) (motive_2 := M2) (motive_3 := M3)
    (fun _ _ => false) (fun _ _ _ => false) (fun _ _ _ => false) (fun _ _ _ _ => false) (fun _ _ => false) (fun _ _ => false) (fun _ _ _ _ => false) (fun _ _ => false) (fun _ _ => false)
    (fun _ _ _ _ _ _ => false) (fun _ => false) (fun _ _ _ _ => false) (fun _ => false) (fun c _ k => k c) (fun _ _ _ => false) (fun _ _ => ()) () (fun _ _ _ _ => ()) v
noncomputable def tupK (v : Value) : (Array Value → Bool) → Bool :=
  Value.rec (motive_1 := fun _ => (Array Value → Bool) → Bool) (motive_2 := M2) (motive_3 := M3)
    (fun _ _ => false) (fun _ _ _ => false) (fun _ _ _ => false) (fun _ _ _ _ => false) (fun _ _ => false) (fun _ _ => false) (fun _ _ _ _ => false) (fun _ _ => false) (fun _ _ => false)
    (fun _ _ _ _ _ _ => false) (fun _ => false) (fun _ _ _ _ => false) (fun _ => false) (fun _ _ _ => false) (fun c _ k => k c) (fun _ _ => ()) () (fun _ _ _ _ => ()) v
/-- One cell of its own? -/
noncomputable def oneK (v : Value) : Bool :=
  Value.rec (motive_1 := fun _ => Bool) (motive_2 := M2) (motive_3 := M3)
    (fun _ => true) (fun _ _ => true) (fun _ _ => true) (fun _ _ _ => true) (fun _ => true) (fun _ => true) (fun _ _ _ => true) (fun _ => true) (fun _ => true)
    (fun _ _ _ _ _ => true) true (fun _ _ _ => true) true (fun _ _ => false) (fun _ _ => false) (fun _ _ => ()) () (fun _ _ _ _ => ()) v
/-- An int, or something else. -/
noncomputable def intOr (v : Value) : (IntKind → Int → Bool) → Bool → Bool :=
  Value.rec (motive_1 := fun _ => (IntKind → Int → Bool) → Bool → Bool) (motive_2 := M2) (motive_3 := M3)
    (fun _ _ f => f) (fun kd n k _ => k kd n) (fun _ _ _ f => f) (fun _ _ _ _ f => f) (fun _ _ f => f) (fun _ _ f => f) (fun _ _ _ _ f => f) (fun _ _ f => f) (fun _ _ f => f)
    (fun _ _ _ _ _ _ f => f) (fun _ f => f) (fun _ _ _ _ f => f) (fun _ f => f) (fun _ _ _ f => f) (fun _ _ _ f => f) (fun _ _ => ()) () (fun _ _ _ _ => ()) v
end
/-- A text, or something else. -/
noncomputable def strOr (v : Value) : (ByteArray → Bool) → Bool → Bool :=
  Value.rec (motive_1 := fun _ => (ByteArray → Bool) → Bool → Bool) (motive_2 := M2) (motive_3 := M3)
    (fun _ _ f => f) (fun _ _ _ f => f) (fun _ _ _ f => f) (fun _ _ _ _ f => f) (fun s k _ => k s) (fun _ _ f => f) (fun _ _ _ _ f => f) (fun _ _ f => f) (fun _ _ f => f)
    (fun _ _ _ _ _ _ f => f) (fun _ f => f) (fun _ _ _ _ f => f) (fun _ f => f) (fun _ _ _ f => f) (fun _ _ _ f => f) (fun _ _ => ()) () (fun _ _ _ _ => ()) v
/-- A bool, or something else. -/
noncomputable def boolOr (v : Value) : (Bool → Bool) → Bool → Bool :=
  Value.rec (motive_1 := fun _ => (Bool → Bool) → Bool → Bool) (motive_2 := M2) (motive_3 := M3)
    (fun b k _ => k b) (fun _ _ _ f => f) (fun _ _ _ f => f) (fun _ _ _ _ f => f) (fun _ _ f => f) (fun _ _ f => f) (fun _ _ _ _ f => f) (fun _ _ f => f) (fun _ _ f => f)
    (fun _ _ _ _ _ _ f => f) (fun _ f => f) (fun _ _ _ _ f => f) (fun _ f => f) (fun _ _ _ f => f) (fun _ _ _ f => f) (fun _ _ => ()) () (fun _ _ _ _ => ()) v
noncomputable def optK (o : Option (Value × H)) : (Value → H → Bool) → Bool :=
  Option.rec (motive := fun _ => (Value → H → Bool) → Bool) (fun _ => false) (fun p => Prod.rec (motive := fun _ => (Value → H → Bool) → Bool) (fun v A k => k v A) p) o
noncomputable def optA {α : Type} (o : Option α) : (α → Bool) → Bool :=
  Option.rec (motive := fun _ => (α → Bool) → Bool) (fun _ => false) (fun p k => k p) o

/-! ### Lists -/
noncomputable def nthK {α : Type} (i : Nat) : List α → (α → Bool) → Bool :=
  Nat.rec (motive := fun _ => List α → (α → Bool) → Bool) (fun l => List.rec (motive := fun _ => (α → Bool) → Bool) (fun _ => false) (fun v _ _ k => k v) l)
    (fun _ ih l => List.rec (motive := fun _ => (α → Bool) → Bool) (fun _ => false) (fun _ r _ => ih r) l) i
noncomputable def setNK (i : Nat) : List Value → Value → (List Value → Bool) → Bool :=
  Nat.rec (motive := fun _ => List Value → Value → (List Value → Bool) → Bool) (fun l => List.rec (motive := fun _ => Value → (List Value → Bool) → Bool) (fun _ _ => false) (fun _ r _ v k => k (v :: r)) l)
    (fun _ ih l => List.rec (motive := fun _ => Value → (List Value → Bool) → Bool) (fun _ _ => false) (fun x r _ v k => ih r v fun r' => k (x :: r')) l) i

/-! ### The heap -/
def pathF : Nat → Nat → List Bool
  | 0, _ => []
  | d + 1, k => bif Nat.beq k 0 then [] else bif Nat.beq (Nat.mod k 2) 1 then true :: pathF d (Nat.div k 2) else false :: pathF d (Nat.sub (Nat.div k 2) 1)
def pathOf (k : Nat) : List Bool := pathF (Nat.succ k) k
section
variable {α : Type}
noncomputable def getP : List Bool → Tr α → Option α :=
  List.rec (motive := fun _ => Tr α → Option α) (fun t => Tr.rec (motive := fun _ => Option α) none (fun v _ _ _ _ => v) t)
    (fun b _ ih t => Tr.rec (motive := fun _ => Option α) none (fun _ l r _ _ => Bool.rec (motive := fun _ => Option α) (ih r) (ih l) b) t)
noncomputable def putP : List Bool → Option α → Tr α → Tr α :=
  List.rec (motive := fun _ => Option α → Tr α → Tr α) (fun x t => Tr.rec (motive := fun _ => Tr α) (.node x .nil .nil) (fun _ l r _ _ => .node x l r) t)
    (fun b _ ih x t => Tr.rec (motive := fun _ => Tr α) (Bool.rec (motive := fun _ => Tr α) (.node none .nil (ih x .nil)) (.node none (ih x .nil) .nil) b)
      (fun v l r _ _ => Bool.rec (motive := fun _ => Tr α) (.node v l (ih x r)) (.node v (ih x l) r) b) t)
end
/-- The cells of a block. -/
noncomputable def cellsK (A : H) (b : Nat) : (Bool → TypeId → List Value → Bool) → Bool :=
  Option.rec (motive := fun _ => (Bool → TypeId → List Value → Bool) → Bool) (fun _ => false)
    (fun o => AObj.rec (motive := fun _ => (Bool → TypeId → List Value → Bool) → Bool) (fun ro e c k => k ro e c) (fun _ _ _ => false) (fun _ _ _ => false) o) (getP (pathOf b) A.t)
noncomputable def setHK (A : H) (b : Nat) (o : AObj) (k : H → Bool) : Bool :=
  H.rec (motive := fun _ => Bool) (fun t n => k ⟨putP (pathOf b) (some o) t, n⟩) A
noncomputable def pushHK (A : H) (o : AObj) (k : Nat → H → Bool) : Bool :=
  H.rec (motive := fun _ => Bool) (fun t n => natK (Nat.succ n) fun m => k n ⟨putP (pathOf n) (some o) t, m⟩) A

/-! ### Numbers -/
noncomputable def idx (k : IntKind) : Nat := IntKind.rec (motive := fun _ => Nat) 0 1 2 3 4 5 6 7 k
/-- Below this a number that is not negative is as it is. -/
noncomputable def lim (k : IntKind) : Nat := IntKind.rec (motive := fun _ => Nat) 128 32768 2147483648 9223372036854775808 256 65536 4294967296 18446744073709551616 k
noncomputable def bitsK (k : IntKind) : Nat := IntKind.rec (motive := fun _ => Nat) 8 16 32 64 8 16 32 64 k
noncomputable def wrapN (kd : IntKind) (a : Nat) (k : Int → Bool) : Bool :=
  Bool.rec (motive := fun _ => Bool) (k (kd.wrap (Int.ofNat a))) (natK a fun r => k (Int.ofNat r)) (Nat.blt a (lim kd))
noncomputable def wrapK (kd : IntKind) (n : Int) : (Int → Bool) → Bool :=
  Int.rec (motive := fun _ => (Int → Bool) → Bool) (fun a k => wrapN kd a k) (fun a k => k (kd.wrap (Int.negSucc a))) n
/-- Two numbers that are not negative, or others. -/
noncomputable def nat2 (x y : Int) : (Nat → Nat → Bool) → Bool → Bool :=
  Int.rec (motive := fun _ => (Nat → Nat → Bool) → Bool → Bool) (fun a => Int.rec (motive := fun _ => (Nat → Nat → Bool) → Bool → Bool) (fun b k _ => k a b) (fun _ _ f => f) y) (fun _ _ f => f) x
abbrev IOp := IntKind → Int → Int → (Value → Bool) → Bool → Bool
noncomputable def addK : IOp := fun kd x y k f => nat2 x y (fun a b => wrapN kd (Nat.add a b) fun r => k (.int kd r)) f
noncomputable def subK : IOp := fun kd x y k f => nat2 x y (fun a b => Bool.rec (motive := fun _ => Bool) f (wrapN kd (Nat.sub a b) fun r => k (.int kd r)) (Nat.ble b a)) f
noncomputable def mulK : IOp := fun kd x y k f => nat2 x y (fun a b => wrapN kd (Nat.mul a b) fun r => k (.int kd r)) f
noncomputable def remK : IOp := fun kd x y k f => nat2 x y (fun a b => Bool.rec (motive := fun _ => Bool) (natK (Nat.mod a b) fun r => k (.int kd (Int.ofNat r))) f (Nat.beq b 0)) f
noncomputable def landK (op : Nat → Nat → Nat) : IOp := fun kd x y k f => nat2 x y (fun a b => Bool.rec (motive := fun _ => Bool) f (Bool.rec (motive := fun _ => Bool) f (natK (op a b) fun r => k (.int kd (Int.ofNat r))) (Nat.blt b (lim kd))) (Nat.blt a (lim kd))) f
noncomputable def shlK : IOp := fun kd x y k f => nat2 x y (fun a b => Bool.rec (motive := fun _ => Bool) f (wrapN kd (Nat.mul a (Nat.pow 2 b)) fun r => k (.int kd r)) (Nat.ble b (bitsK kd))) f
noncomputable def shrK : IOp := fun kd x y k f => nat2 x y (fun a b => Bool.rec (motive := fun _ => Bool) f (natK (Nat.div a (Nat.pow 2 b)) fun r => k (.int kd (Int.ofNat r))) (Nat.ble b (bitsK kd))) f
noncomputable def eqK : IOp := fun _ x y k f => nat2 x y (fun a b => k (.bool (Nat.beq a b))) f
noncomputable def neK : IOp := fun _ x y k f => nat2 x y (fun a b => k (.bool (not (Nat.beq a b)))) f
noncomputable def ltK : IOp := fun _ x y k f => nat2 x y (fun a b => k (.bool (Nat.blt a b))) f
noncomputable def leK : IOp := fun _ x y k f => nat2 x y (fun a b => k (.bool (Nat.ble a b))) f
noncomputable def gtK : IOp := fun _ x y k f => nat2 x y (fun a b => k (.bool (Nat.blt b a))) f
noncomputable def geK : IOp := fun _ x y k f => nat2 x y (fun a b => k (.bool (Nat.ble b a))) f
noncomputable def noK : IOp := fun _ _ _ _ f => f
/-- Of two ints of one kind; shifts ask no one kind. -/
noncomputable def iopK (op : BinOp) : IOp := BinOp.rec (motive := fun _ => IOp) addK subK mulK noK remK (landK Nat.land) (landK Nat.lor) (landK Nat.xor) shlK shrK noK eqK neK ltK leK gtK geK op
noncomputable def isShift (op : BinOp) : Bool := BinOp.rec (motive := fun _ => Bool) false false false false false false false false true true false false false false false false false op
section
variable [Kn]
noncomputable def binK (op : BinOp) (d : TypeDesc) (a b : Value) (k : Value → Bool) : Bool :=
  intOr a (fun ka x => intOr b (fun kb y => Bool.rec (motive := fun _ => Bool) (optA (binA op d a b) k) (iopK op ka x y k (optA (binA op d a b) k)) (or (isShift op) (Nat.beq (idx ka) (idx kb)))) (optA (binA op d a b) k)) (optA (binA op d a b) k)

/-! ### Operations -/
abbrev CallK := FuncId → List Value → H → (Value → H → Bool) → Bool
abbrev OpK := TK → H → CallK → (Value → H → Bool) → Bool
noncomputable def slowK (op : XOp) : OpK := fun T A _ k => optK (evalOp op (fun o => rdK o T) A) k
noncomputable def one1 (n : Nat) (agg : Bool) : Bool := Bool.rec (motive := fun _ => Bool) (Nat.beq n 1) false agg
noncomputable def kMove (x : Operand) : OpK := fun T A _ k => k (rdK x T) A
noncomputable def kPick (c a b : Operand) : OpK := fun T A _ k => boolK (rdK c T) fun t => k (Bool.rec (motive := fun _ => Value) (rdK b T) (rdK a T) t) A
noncomputable def kAlloc (e : TypeId) (z : List Value) : OpK := fun _ A _ k => pushHK A (.cells false e z) fun n A' => k (.pointer (some ⟨n, 0, none⟩)) A'
noncomputable def kBox (e : TypeId) (x : Operand) : OpK := fun T A _ k => pushHK A (.cells false e (cellsL (rdK x T))) fun n A' => k (.pointer (some ⟨n, 0, none⟩)) A'
noncomputable def kLoad (n : Nat) (agg : Bool) (a : Operand) : OpK := fun T A _ k => ptrK (rdK a T) fun b o => cellsK A b fun _ _ c =>
  Bool.rec (motive := fun _ => Bool) (optA (cut c o n) fun l => optA (oneV agg l) fun v => k v A) (nthK o c fun v => k v A) (one1 n agg)
noncomputable def kStore (n : Nat) (a x : Operand) : OpK := fun T A c k =>
  Bool.rec (motive := fun _ => Bool) (slowK (.store n a x) T A c k)
    (ptrK (rdK a T) fun b o => cellsK A b fun ro e c => Bool.rec (motive := fun _ => Bool) (setNK o c (rdK x T) fun c' => setHK A b (.cells false e c') fun A' => k noV A') false ro)
    (and (Nat.beq n 1) (oneK (rdK x T)))
noncomputable def kNil (x : Operand) : OpK := fun T A _ k => ptrK (rdK x T) fun b o => k (.pointer (some ⟨b, o, none⟩)) A
noncomputable def kBin (op : BinOp) (d : TypeDesc) (x y : Operand) : OpK := fun T A c k => intOr (rdK x T) (fun _ _ => intOr (rdK y T) (fun _ _ => binK op d (rdK x T) (rdK y T) fun v => k v A) (slowK (.bin op d x y) T A c k)) (slowK (.bin op d x y) T A c k)
noncomputable def kUn (op : UnOp) (x : Operand) : OpK := fun T A c k => UnOp.rec (motive := fun _ => Bool) (slowK (.un op x) T A c k) (slowK (.un op x) T A c k) (boolK (rdK x T) fun b => k (.bool (not b)) A) (slowK (.un op x) T A c k) op
noncomputable def kToInt (kd : IntKind) (x : Operand) : OpK := fun T A c k => intOr (rdK x T) (fun _ n => wrapK kd n fun m => k (.int kd m) A) (slowK (.toInt kd x) T A c k)
noncomputable def kField (off : Nat) (x : Operand) : OpK := fun T A _ k => ptrK (rdK x T) fun b o => natK (Nat.add o off) fun s => k (.pointer (some ⟨b, s, none⟩)) A
noncomputable def ofNatK (n : Int) : (Nat → Bool) → Bool := Int.rec (motive := fun _ => (Nat → Bool) → Bool) (fun a k => k a) (fun _ _ => false) n
noncomputable def kIndexAddr (arr : Option Nat) (size : Nat) (x i : Operand) : OpK := fun T A _ k => intK (rdK i T) fun _ n => ofNatK n fun m =>
  Option.rec (motive := fun _ => Bool)
    (sliceK (rdK x T) fun a l _ => addrK a fun b o => Bool.rec (motive := fun _ => Bool) false (natK (Nat.add o (Nat.mul m size)) fun s => k (.pointer (some ⟨b, s, none⟩)) A) (Nat.blt m l))
    (fun l => ptrK (rdK x T) fun b o => Bool.rec (motive := fun _ => Bool) false (natK (Nat.add o (Nat.mul m size)) fun s => k (.pointer (some ⟨b, s, none⟩)) A) (Nat.blt m l)) arr
noncomputable def kFld (off size : Nat) (agg : Bool) (x : Operand) : OpK := fun T A _ k => aggK (rdK x T) fun cs =>
  Bool.rec (motive := fun _ => Bool) (optA (cut cs.toList off size) fun l => optA (oneV agg l) fun v => k v A) (nthK off cs.toList fun v => k v A) (one1 size agg)
noncomputable def kIndex (arr : Option (Nat × Nat × Bool)) (x i : Operand) : OpK := fun T A c k =>
  Option.rec (motive := fun _ => Bool) (intK (rdK i T) fun _ n => ofNatK n fun m => strOr (rdK x T) (fun s => nthK m (bytesOf s) fun b => natK b.toNat fun r => k (.int .u8 (Int.ofNat r)) A) (slowK (.index arr x i) T A c k))
    (fun _ => slowK (.index arr x i) T A c k) arr
noncomputable def kExtract (x : Operand) (i : Nat) : OpK := fun T A _ k => tupK (rdK x T) fun vs => nthK i vs.toList fun v => k v A
noncomputable def kLen (arr : Option Nat) (x : Operand) : OpK := fun T A _ k =>
  Option.rec (motive := fun _ => Bool) (sliceK (rdK x T) fun _ l _ => k (.int .i64 (Int.ofNat l)) A) (fun n => k (.int .i64 (Int.ofNat n)) A) arr
noncomputable def kLenStr (x : Operand) : OpK := fun T A c k => strOr (rdK x T) (fun s => natK (bytesOf s).length fun n => k (.int .i64 (Int.ofNat n)) A) (slowK (.lenStr x) T A c k)
noncomputable def mapR (T : TK) (l : List Operand) : List Value := List.rec (motive := fun _ => List Value) [] (fun o _ ih => rdK o T :: ih) l
noncomputable def kCall (f : FuncId) (args : List Operand) : OpK := fun T A c k => c f (mapR T args) A k
noncomputable def kCallV (f : Operand) (args : List Operand) : OpK := fun T A c k => optA (calleeA (rdK f T) (mapR T args)) fun p => c p.1 p.2 A k
noncomputable def kCallI (find : TypeId → Option FuncId) (r : Operand) (args : List Operand) : OpK := fun T A c k => optA (calleeM find (rdK r T) (mapR T args)) fun p => c p.1 p.2 A k
noncomputable def kOp (op : XOp) : OpK :=
  XOp.rec (motive := fun _ => OpK) kMove kPick kAlloc kBox (fun z ps => slowK (.build z ps)) (fun e n z ps => slowK (.buildSlice e n z ps)) kLoad kStore kNil kBin kUn kToInt (fun x => slowK (.toUnsafe x)) (fun u z x => slowK (.assert u z x)) (fun g x y => slowK (.isNil g x y)) (fun g l x y => slowK (.eqS g l x y)) (fun x => slowK (.same x))
    (fun e x => slowK (.toBytes e x)) (fun x => slowK (.ofBytes x)) kField kIndexAddr kFld kIndex (fun x lo hi => slowK (.sliceStr x lo hi)) (fun e s a x lo hi mx => slowK (.slice e s a x lo hi mx)) kExtract
    (fun t x T A _ k => k (.iface t (rdK x T)) A) (fun fn fs cs => slowK (.makeFunc fn fs cs)) (slowK .makeMap) (fun d m k x => slowK (.mapPut d m k x)) (fun d z m k ok => slowK (.lookup d z m k ok)) (fun d m k => slowK (.mapDel d m k))
    (fun e b s z l c => slowK (.makeSlice e b s z l c)) (fun x => slowK (.rangeStr x)) (fun x => slowK (.nextStr x)) kCall kCallV kCallI kLen kLenStr (fun e s b x y => slowK (.append e s b x y)) (fun s x y => slowK (.copy s x y))
    (fun z x => slowK (.clear z x)) (fun m xs => slowK (.minmax m xs)) (fun kd xs => slowK (.ext kd xs)) (fun _ _ _ _ _ => false) op

/-! ### Code -/
abbrev ContK := TK → H → Bool
noncomputable def putD (d : Option Tmp) (v : Value) (T : TK) (k : TK → Bool) : Bool := Option.rec (motive := fun _ => Bool) (k T) (fun i => putT i v T k) d
noncomputable def guardK (g : Option (Tmp × Bool)) (T : TK) : (Bool → Bool) → Bool :=
  Option.rec (motive := fun _ => (Bool → Bool) → Bool) (fun k => k true) (fun p k => boolOr (rdT p.1 T) (fun b => k (Bool.rec (motive := fun _ => Bool) (not p.2) p.2 b)) (k false)) g
noncomputable def kOne (o : XOper) (T : TK) (A : H) (c : CallK) (k : ContK) : Bool :=
  XOper.rec (motive := fun _ => TK → H → CallK → ContK → Bool)
    (fun dst g op T A c k => guardK g T fun w => Bool.rec (motive := fun _ => Bool) (putD dst noV T fun T' => k T' A) (kOp op T A c fun v A' => putD dst v T fun T' => k T' A') w) o T A c k
noncomputable def kOps (l : List XOper) : TK → H → CallK → ContK → Bool :=
  List.rec (motive := fun _ => TK → H → CallK → ContK → Bool) (fun T A _ k => k T A) (fun o _ ih T A c k => kOne o T A c fun T' A' => ih T' A' c k) l
def wantedR (ρ : Operand → Value) : Option (Tmp × Bool) → Bool
  | none => true
  | some (g, w) => match ρ (.tmp g) with
    | .bool b => b == w
    | _ => false
def againR (ρ : Operand → Value) (A : H) (o : XOper) : Bool :=
  bif wantedR ρ o.guard then
    match evalOp o.op ρ A with
    | some (v, _) => match o.dst with
      | some d => sameV v (ρ (.tmp d))
      | none => true
    | none => false
  else true
noncomputable def allK (ρ : Operand → Value) (A : H) (l : List XOper) : Bool := List.rec (motive := fun _ => Bool) true (fun o _ ih => Bool.rec (motive := fun _ => Bool) false ih (againR ρ A o)) l
noncomputable def kDraw (l : List (XOper × List XOper)) : TK → H → CallK → ContK → Bool :=
  List.rec (motive := fun _ => TK → H → CallK → ContK → Bool) (fun T A _ k => k T A)
    (fun p _ ih T A c k => kOne p.1 T A c fun T' A' => Bool.rec (motive := fun _ => Bool) false (ih T' A' c k) (allK (fun o => rdK o T') A' p.2)) l
/-- How often a loop goes round at most. -/
def roundsK : Nat := 1000000
noncomputable def loopK (body : ContK → ContK) (n : Nat) : ContK := Nat.rec (motive := fun _ => ContK) (fun _ _ => false) (fun _ self T A => body self T A) n
noncomputable def kC (c : XCode) : CallK → (Nat → ContK) → ContK → ContK → ContK :=
  XCode.rec (motive := fun _ => CallK → (Nat → ContK) → ContK → ContK → ContK)
    (fun _ _ _ k T A => k T A) (fun l c _ _ k T A => kOps l T A c k) (fun l c _ _ k T A => kDraw l T A c k)
    (fun _ _ iha ihb c env ret k T A => iha c env ret (fun T A => ihb c env ret k T A) T A)
    (fun x _ _ iha ihb c env ret k T A => boolK (rdK x T) fun b => Bool.rec (motive := fun _ => Bool) (ihb c env ret k T A) (iha c env ret k T A) b)
    (fun id _ ih c env ret k T A => ih c (fun i T A => Bool.rec (motive := fun _ => Bool) (env i T A) (k T A) (Nat.beq i id)) ret k T A)
    (fun _ ih c env ret _ T A => loopK (fun self T A => ih c env ret self T A) roundsK T A)
    (fun id _ env _ _ T A => env id T A) (fun _ _ ret _ T A => ret T A) (fun _ _ _ _ _ _ _ => false) c

noncomputable def argsK (l : List Value) : Nat → TK → (TK → Bool) → Bool :=
  List.rec (motive := fun _ => Nat → TK → (TK → Bool) → Bool) (fun _ T k => k T) (fun v _ ih i T k => putT i v T fun T' => ih (Nat.succ i) T' k) l
noncomputable def resultsK (l : List (Nat × Option (Nat × Bool))) : TK → H → (List Value → Bool) → Bool :=
  List.rec (motive := fun _ => TK → H → (List Value → Bool) → Bool) (fun _ _ k => k [])
    (fun p _ ih T A k => Option.rec (motive := fun _ => Bool) (ih T A fun vs => k (rdT p.1 T :: vs))
      (fun q => ptrK (rdT p.1 T) fun b o => cellsK A b fun _ _ c => optA (cut c o q.1) fun l => optA (oneV q.2 l) fun v => ih T A fun vs => k (v :: vs)) p.2) l
abbrev KNat := CallK → List Value → H → (Value → H → Bool) → Bool
section
variable (code : FuncId → Option XFun) (nats : FuncId → Option KNat)
noncomputable def runFK (x : XFunc) (self : CallK) (args : List Value) (A : H) (k : Value → H → Bool) : Bool :=
  Bool.rec (motive := fun _ => Bool) false
    (argsK args 0 TK.none fun T => kC x.body self (fun _ _ _ => false) (fun T A => resultsK x.results T A fun vs => k (resultV vs) A) (fun T A => resultsK x.results T A fun vs => k (resultV vs) A) T A) (Nat.ble args.length x.ntmps)
/-- A deferred call at a normal end. -/
noncomputable def lateK (self : CallK) (g : FuncId) (dl : List Value) (A : H) (k : H → Bool) : Bool :=
  Option.rec (motive := fun _ => Bool) false (fun xf => XFun.rec (motive := fun _ => Bool)
    (fun x => Bool.rec (motive := fun _ => Bool) false
      (argsK dl 0 TK.none fun T => kC x.late self (fun _ _ _ => false) (fun _ A => k A) (fun _ A => k A) T A) (and (Nat.ble dl.length x.ntmps) x.results.isEmpty))
    (fun _ _ _ _ _ _ => false) (fun _ => false) xf) (code g)
noncomputable def runDK (nt : Nat) (rs : List (Nat × Option (Nat × Bool))) (x : XCode) (fo : Operand) (das : List Operand) (y : XCode) (self : CallK) (args : List Value) (A : H) (k : Value → H → Bool) : Bool :=
  Bool.rec (motive := fun _ => Bool) false
    (argsK args 0 TK.none fun T => kC x self (fun _ _ _ => false) (fun _ _ => false) (fun T A => optA (calleeA (rdK fo T) (mapR T das)) fun q =>
      kC y self (fun _ _ _ => false) (fun T A => lateK code self q.1 q.2 A fun A => resultsK rs T A fun vs => k (resultV vs) A) (fun T A => lateK code self q.1 q.2 A fun A => resultsK rs T A fun vs => k (resultV vs) A) T A) T A) (Nat.ble args.length nt)
noncomputable def kF (n : Nat) : CallK :=
  Nat.rec (motive := fun _ => CallK) (fun _ _ _ _ => false)
    (fun _ self f args A k => Option.rec (motive := fun _ => Bool)
      (Option.rec (motive := fun _ => Bool) false (fun xf => XFun.rec (motive := fun _ => Bool) (fun x => runFK x self args A k) (fun nt rs x fo das y => runDK code nt rs x fo das y self args A k) (fun _ => false) xf) (code f))
      (fun g => g self args A k) (nats f)) n
end
end
end Go.Ab
namespace Go.Ab
open Go

/-! ### The tree of eights -/
section
variable {α : Type}
noncomputable def upd8 (d : D8) (f : α → α) (n : N8 α) : N8 α := match d with
  | .d0 => { n with f0 := f n.f0 } | .d1 => { n with f1 := f n.f1 } | .d2 => { n with f2 := f n.f2 } | .d3 => { n with f3 := f n.f3 }
  | .d4 => { n with f4 := f n.f4 } | .d5 => { n with f5 := f n.f5 } | .d6 => { n with f6 := f n.f6 } | .d7 => { n with f7 := f n.f7 }
theorem put8_eq (d : D8) {g : α → (α → Bool) → Bool} {f : α → α} (h : ∀ x k, g x k = k (f x)) (n : N8 α) (k : N8 α → Bool) : put8 d g n k = k (upd8 d f n) := by
  cases d <;> cases n <;> simp only [put8, upd8, h]
theorem sel_upd (d d' : D8) (f : α → α) (n : N8 α) : sel8 d' (upd8 d f n) = if d' = d then f (sel8 d' n) else sel8 d' n := by
  cases d <;> cases d' <;> rfl
theorem sel_rep (d : D8) (x : α) : sel8 d (rep8 x) = x := by cases d <;> rfl
end
theorem toD8_inj : ∀ a, a < 8 → ∀ b, b < 8 → toD8 a = toD8 b → a = b := by decide
theorem path3_inj {i j : Nat} (hi : i < 512) (hj : j < 512) (h : path3 i = path3 j) : i = j := by
  unfold path3 at h
  simp only [P3.mk.injEq] at h
  have e1 : ∀ a b, Nat.div a b = a / b := fun _ _ => rfl
  have e2 : ∀ a b, Nat.mod a b = a % b := fun _ _ => rfl
  simp only [e1, e2] at h
  obtain ⟨h1, h2, h3⟩ := h
  have h1 := toD8_inj _ (by omega) _ (by omega) h1
  have h2 := toD8_inj _ (by omega) _ (by omega) h2
  have h3 := toD8_inj _ (by omega) _ (by omega) h3
  omega
noncomputable def updT (i : Nat) (v : Value) (T : TK) : TK := upd8 (path3 i).a (fun x => upd8 (path3 i).b (fun y => upd8 (path3 i).c (fun _ => v) y) x) T
theorem putT_eq (i : Nat) (v : Value) (T : TK) (k : TK → Bool) : putT i v T k = if i < 512 then k (updT i v T) else false := by
  unfold putT
  have h := put8_eq (path3 i).a (g := fun x => put8 (path3 i).b (fun y => put8 (path3 i).c (fun _ k => k v) y) x) (f := fun x => upd8 (path3 i).b (fun y => upd8 (path3 i).c (fun _ => v) y) x)
    (fun x k => put8_eq (path3 i).b (fun y k => put8_eq (path3 i).c (fun _ _ => rfl) y k) x k) T k
  rw [h]
  cases hb : Nat.blt i 512 with
  | true => have := Nat.le_of_ble_eq_true hb; rw [if_pos (by omega)]; rfl
  | false => have hn : ¬ i < 512 := fun hh => by rw [show Nat.blt i 512 = true from Nat.ble_eq_true_of_le hh] at hb; cases hb
             rw [if_neg hn]
theorem rdT_upd {i : Nat} (hi : i < 512) (v : Value) (T : TK) (j : Nat) : rdT j (updT i v T) = if j = i then v else rdT j T := by
  unfold rdT
  cases hb : Nat.blt j 512 with
  | true =>
    have hj : j < 512 := Nat.le_of_ble_eq_true hb
    simp only
    unfold selT updT
    rw [sel_upd]
    by_cases e1 : (path3 j).a = (path3 i).a
    · rw [if_pos e1, sel_upd]
      by_cases e2 : (path3 j).b = (path3 i).b
      · rw [if_pos e2, sel_upd]
        by_cases e3 : (path3 j).c = (path3 i).c
        · rw [if_pos e3]
          have : path3 j = path3 i := by
            cases hh : path3 j; cases hk : path3 i
            rw [hh, hk] at e1 e2 e3
            simp only at e1 e2 e3
            subst e1; subst e2; subst e3; rfl
          rw [if_pos (path3_inj hj hi this)]
        · rw [if_neg e3, if_neg (fun e => e3 (by rw [e]))]
      · rw [if_neg e2, if_neg (fun e => e2 (by rw [e]))]
    · rw [if_neg e1, if_neg (fun e => e1 (by rw [e]))]
  | false =>
    have hn : ¬ j < 512 := fun hh => by rw [show Nat.blt j 512 = true from Nat.ble_eq_true_of_le hh] at hb; cases hb
    simp only
    rw [if_neg (by omega)]
theorem rdT_none (j : Nat) : rdT j TK.none = noV := by
  unfold rdT selT TK.none
  rw [sel_rep, sel_rep, sel_rep]
  cases Nat.blt j 512 <;> rfl
/-- The temporaries are the same. -/
def TR (T : TK) (t : Tm) : Prop := ∀ i, val t (.tmp i) = rdT i T
theorem TR.none : TR TK.none .nil := fun i => by rw [rdT_none]; rfl
theorem TR.put {T : TK} {t : Tm} (h : TR T t) {i : Nat} {v : Value} {k : TK → Bool} (hk : putT i v T k = true) : ∃ T', TR T' (t.put i (some v)) ∧ k T' = true := by
  rw [putT_eq] at hk
  split at hk
  · rename_i hi
    refine ⟨_, fun j => ?_, hk⟩
    rw [rdT_upd hi]
    simp only [val, Tr.get_put]
    split
    · rfl
    · exact h j
  · cases hk
theorem TR.putD {T : TK} {t : Tm} (h : TR T t) {d : Option Tmp} {v : Value} {k : TK → Bool} (hk : putD d v T k = true) : ∃ T', TR T' (setT t d v) ∧ k T' = true := by
  cases d with
  | none => exact ⟨T, h, hk⟩
  | some d => exact h.put hk
theorem TR.rd {T : TK} {t : Tm} (h : TR T t) (o : Operand) : rdK o T = val t o := by
  cases o with
  | tmp i => exact (h i).symm
  | const v => rfl
  | global g => rfl
  | func f => rfl
theorem TR.fn {T : TK} {t : Tm} (h : TR T t) : (fun o => rdK o T) = val t := funext h.rd

/-! ### Values -/
theorem natK_eq (n : Nat) (k : Nat → Bool) : natK n k = k n := by cases n <;> rfl
theorem intK_spec {v : Value} {k : IntKind → Int → Bool} (h : intK v k = true) : ∃ kd n, v = .int kd n ∧ k kd n = true := by
  cases v <;> first | exact ⟨_, _, rfl, h⟩ | cases h
theorem boolK_spec {v : Value} {k : Bool → Bool} (h : boolK v k = true) : ∃ b, v = .bool b ∧ k b = true := by
  cases v <;> first | exact ⟨_, rfl, h⟩ | cases h
theorem strK_spec {v : Value} {k : ByteArray → Bool} (h : strK v k = true) : ∃ s, v = .string s ∧ k s = true := by
  cases v <;> first | exact ⟨_, rfl, h⟩ | cases h
theorem strOr_spec {v : Value} {k : ByteArray → Bool} {f : Bool} (h : strOr v k f = true) : (∃ s, v = .string s ∧ k s = true) ∨ f = true := by
  cases v <;> first | exact .inl ⟨_, rfl, h⟩ | exact .inr h
theorem addrK_spec {a : Option Addr} {k : Nat → Nat → Bool} (h : addrK a k = true) : ∃ b o, a = some ⟨b, o, none⟩ ∧ k b o = true := by
  cases a with
  | none => cases h
  | some a =>
    obtain ⟨b, o, s⟩ := a
    cases s with
    | none => exact ⟨b, o, rfl, h⟩
    | some s => cases h
theorem ptrK_spec {v : Value} {k : Nat → Nat → Bool} (h : ptrK v k = true) : ∃ b o, v = .pointer (some ⟨b, o, none⟩) ∧ k b o = true := by
  cases v <;> first | (obtain ⟨b, o, rfl, h⟩ := addrK_spec h; exact ⟨b, o, rfl, h⟩) | cases h
theorem sliceK_spec {v : Value} {k : Option Addr → Nat → Nat → Bool} (h : sliceK v k = true) : ∃ a l c, v = .slice a l c ∧ k a l c = true := by
  cases v <;> first | exact ⟨_, _, _, rfl, h⟩ | cases h
theorem aggK_spec {v : Value} {k : Array Value → Bool} (h : aggK v k = true) : ∃ c, v = .agg c ∧ k c = true := by
  cases v <;> first | exact ⟨_, rfl, h⟩ | cases h
theorem tupK_spec {v : Value} {k : Array Value → Bool} (h : tupK v k = true) : ∃ c, v = .tuple c ∧ k c = true := by
  cases v <;> first | exact ⟨_, rfl, h⟩ | cases h
theorem oneK_spec {v : Value} (h : oneK v = true) : cellsL v = [v] ∧ oneCell v = true := by
  cases v <;> first | exact ⟨rfl, rfl⟩ | cases h
theorem optK_spec {o : Option (Value × H)} {k : Value → H → Bool} (h : optK o k = true) : ∃ v A, o = some (v, A) ∧ k v A = true := by
  cases o with
  | none => cases h
  | some p => obtain ⟨v, A⟩ := p; exact ⟨v, A, rfl, h⟩
theorem optA_spec {α : Type} {o : Option α} {k : α → Bool} (h : optA o k = true) : ∃ x, o = some x ∧ k x = true := by
  cases o with
  | none => cases h
  | some p => exact ⟨p, rfl, h⟩

/-! ### Lists -/
theorem nthK_spec {α : Type} : ∀ {i : Nat} {l : List α} {k : α → Bool}, nthK i l k = true → ∃ v, l[i]? = some v ∧ k v = true := by
  intro i
  induction i with
  | zero => intro l k h; cases l with
    | nil => cases h
    | cons v r => exact ⟨v, rfl, h⟩
  | succ i ih => intro l k h; cases l with
    | nil => cases h
    | cons v r =>
      obtain ⟨u, h1, h2⟩ := ih (l := r) h
      exact ⟨u, by simpa using h1, h2⟩
theorem setNK_spec : ∀ {i : Nat} {l : List Value} {v : Value} {k : List Value → Bool}, setNK i l v k = true → i < l.length ∧ k (l.set i v) = true := by
  intro i
  induction i with
  | zero => intro l v k h; cases l with
    | nil => cases h
    | cons x r => exact ⟨by simp, h⟩
  | succ i ih => intro l v k h; cases l with
    | nil => cases h
    | cons x r =>
      obtain ⟨h1, h2⟩ := ih (l := r) (v := v) (k := fun r' => k (x :: r')) h
      exact ⟨by simp; omega, h2⟩
theorem cut_one {c : List Value} {o : Nat} {v : Value} (h : c[o]? = some v) : cut c o 1 = some [v] := by
  have hlt := (List.getElem?_eq_some_iff.1 h).1
  have hv := (List.getElem?_eq_some_iff.1 h).2
  unfold cut
  rw [List.drop_eq_getElem_cons hlt, hv]
  rfl
theorem over_one {c : List Value} {o : Nat} {v : Value} (h : o < c.length) : over c o [v] = some (c.set o v) := by
  unfold over
  have : Nat.ble (o + [v].length) c.length = true := Nat.ble_eq_true_of_le (by simp; omega)
  rw [this]
  simp only [cond_true, Option.some.injEq]
  rw [List.set_eq_take_append_cons_drop, if_pos h]
  simp

/-! ### The heap -/
theorem getP_path {α : Type} : ∀ (d k : Nat) (t : Tr α), k < d → getP (pathF d k) t = t.get k := by
  intro d
  induction d with
  | zero => intro k t h; omega
  | succ d ih =>
    intro k t h
    unfold pathF
    cases h0 : Nat.beq k 0 with
    | true =>
      have := Nat.eq_of_beq_eq_true h0
      subst this
      simp only [cond_true]
      cases t with
      | nil => rfl
      | node v l r => rfl
    | false =>
      have hk0 := Nat.ne_of_beq_eq_false h0
      simp only [cond_false]
      cases h1 : Nat.beq (Nat.mod k 2) 1 with
      | true =>
        simp only [cond_true]
        cases t with
        | nil => rfl
        | node v l r =>
          have := ih (Nat.div k 2) l (by have : Nat.div k 2 = k / 2 := rfl; omega)
          simp only [Tr.get, h0, h1, cond_true, cond_false]
          rw [← this]
          rfl
      | false =>
        simp only [cond_false]
        cases t with
        | nil => rfl
        | node v l r =>
          have := ih (Nat.sub (Nat.div k 2) 1) r (by have h1 : Nat.div k 2 = k / 2 := rfl; have h2 : Nat.sub (Nat.div k 2) 1 = k / 2 - 1 := rfl; omega)
          simp only [Tr.get, h0, h1, cond_false]
          rw [← this]
          rfl
theorem getP_eq {α : Type} (k : Nat) (t : Tr α) : getP (pathOf k) t = t.get k := getP_path _ _ _ (Nat.lt_succ_self k)
theorem putP_path {α : Type} (x : Option α) : ∀ (d k : Nat) (t : Tr α), k < d → putP (pathF d k) x t = Tr.putD x d t k := by
  intro d
  induction d with
  | zero => intro k t h; omega
  | succ d ih =>
    intro k t h
    unfold pathF
    cases h0 : Nat.beq k 0 with
    | true =>
      simp only [cond_true]
      cases t with
      | nil => simp only [Tr.putD, h0, cond_true]; rfl
      | node v l r => simp only [Tr.putD, h0, cond_true]; rfl
    | false =>
      have hk0 := Nat.ne_of_beq_eq_false h0
      simp only [cond_false]
      cases h1 : Nat.beq (Nat.mod k 2) 1 with
      | true =>
        simp only [cond_true]
        have hlt : Nat.div k 2 < d := by have : Nat.div k 2 = k / 2 := rfl; omega
        cases t with
        | nil => simp only [Tr.putD, h0, h1, cond_true, cond_false]; rw [← ih _ _ hlt]; rfl
        | node v l r => simp only [Tr.putD, h0, h1, cond_true, cond_false]; rw [← ih _ _ hlt]; rfl
      | false =>
        simp only [cond_false]
        have hlt : Nat.sub (Nat.div k 2) 1 < d := by have h1 : Nat.div k 2 = k / 2 := rfl; have h2 : Nat.sub (Nat.div k 2) 1 = k / 2 - 1 := rfl; omega
        cases t with
        | nil => simp only [Tr.putD, h0, h1, cond_false]; rw [← ih _ _ hlt]; rfl
        | node v l r => simp only [Tr.putD, h0, h1, cond_false]; rw [← ih _ _ hlt]; rfl
theorem putP_eq {α : Type} (k : Nat) (x : Option α) (t : Tr α) : putP (pathOf k) x t = t.put k x := putP_path x _ _ _ (Nat.lt_succ_self k)
theorem cellsK_spec {A : H} {b : Nat} {k : Bool → TypeId → List Value → Bool} (h : cellsK A b k = true) : ∃ ro e c, A.get b = some (.cells ro e c) ∧ k ro e c = true := by
  unfold cellsK at h
  rw [getP_eq] at h
  unfold H.get
  cases hg : A.t.get b with
  | none => rw [hg] at h; cases h
  | some o =>
    rw [hg] at h
    cases o with
    | cells ro e c => exact ⟨ro, e, c, rfl, h⟩
    | map es c => cases h
    | iter s p => cases h
theorem setHK_eq (A : H) (b : Nat) (o : AObj) (k : H → Bool) : setHK A b o k = k (A.set b o) := by
  obtain ⟨t, n⟩ := A
  show k ⟨putP (pathOf b) (some o) t, n⟩ = _
  rw [putP_eq]
  rfl
theorem pushHK_eq (A : H) (o : AObj) (k : Nat → H → Bool) : pushHK A o k = k A.next (A.push o) := by
  obtain ⟨t, n⟩ := A
  show natK (Nat.succ n) (fun m => k n ⟨putP (pathOf n) (some o) t, m⟩) = _
  rw [natK_eq, putP_eq]
  rfl
end Go.Ab
namespace Go.Ab
open Go
variable [Kn]

theorem wrap_small (kd : IntKind) {a : Nat} (h : a < lim kd) : kd.wrap (Int.ofNat a) = Int.ofNat a := by
  have e : Int.ofNat a = (a : Int) := rfl
  rw [e]
  cases kd <;> simp only [lim] at h <;> simp [IntKind.wrap, IntKind.bits, IntKind.signed] <;> omega
theorem wrapN_eq (kd : IntKind) (a : Nat) (k : Int → Bool) : wrapN kd a k = k (kd.wrap (Int.ofNat a)) := by
  unfold wrapN
  cases hb : Nat.blt a (lim kd) with
  | true =>
    have hlt : a < lim kd := Nat.le_of_ble_eq_true hb
    simp only
    rw [natK_eq, wrap_small kd hlt]
  | false => rfl
theorem wrapK_eq (kd : IntKind) (n : Int) (k : Int → Bool) : wrapK kd n k = k (kd.wrap n) := by
  cases n with
  | ofNat a => exact wrapN_eq kd a k
  | negSucc a => rfl
theorem nat2_spec {x y : Int} {k : Nat → Nat → Bool} {f : Bool} (h : nat2 x y k f = true) : (∃ a b, x = Int.ofNat a ∧ y = Int.ofNat b ∧ k a b = true) ∨ f = true := by
  cases x with
  | ofNat a => cases y with
    | ofNat b => exact .inl ⟨a, b, rfl, rfl, h⟩
    | negSucc b => exact .inr h
  | negSucc a => exact .inr h
theorem idx_eq {a b : IntKind} (h : Nat.beq (idx a) (idx b) = true) : a = b := by
  have := Nat.eq_of_beq_eq_true h
  cases a <;> cases b <;> first | rfl | (simp [idx] at this)
theorem bits_eq (k : IntKind) : bitsK k = k.bits := by cases k <;> rfl
theorem lim_bits (k : IntKind) : ∃ m, lim k = 2 ^ m ∧ m ≤ k.bits := by
  cases k
  · exact ⟨7, rfl, by decide⟩
  · exact ⟨15, rfl, by decide⟩
  · exact ⟨31, rfl, by decide⟩
  · exact ⟨63, rfl, by decide⟩
  · exact ⟨8, rfl, by decide⟩
  · exact ⟨16, rfl, by decide⟩
  · exact ⟨32, rfl, by decide⟩
  · exact ⟨64, rfl, by decide⟩
theorem ofInt_small (n a : Nat) (h : a < 2 ^ n) : (BitVec.ofInt n (Int.ofNat a)).toNat = a := by
  have e : Int.ofNat a = (a : Int) := rfl
  rw [e, BitVec.ofInt_natCast, BitVec.toNat_ofNat, Nat.mod_eq_of_lt h]
theorem lim_le (k : IntKind) {a : Nat} (h : a < lim k) : a < 2 ^ k.bits := by
  obtain ⟨m, h1, h2⟩ := lim_bits k
  rw [h1] at h
  exact Nat.lt_of_lt_of_le h (Nat.pow_le_pow_right (by decide) h2)
theorem land_ok {kd : IntKind} {a b : Nat} (ha : a < lim kd) (hb : b < lim kd) : bitsA .and kd (Int.ofNat a) (Int.ofNat b) = some (.int kd (Int.ofNat (Nat.land a b))) := by
  simp only [bitsA]
  rw [BitVec.toNat_and, ofInt_small _ _ (lim_le kd ha), ofInt_small _ _ (lim_le kd hb)]
  have : a &&& b < lim kd := Nat.lt_of_le_of_lt Nat.and_le_left ha
  have h2 := wrap_small kd this
  have e : Int.ofNat (a &&& b) = ((a &&& b : Nat) : Int) := rfl
  rw [e] at h2
  rw [h2]
  rfl
theorem lor_ok {kd : IntKind} {a b : Nat} (ha : a < lim kd) (hb : b < lim kd) : bitsA .or kd (Int.ofNat a) (Int.ofNat b) = some (.int kd (Int.ofNat (Nat.lor a b))) := by
  simp only [bitsA]
  rw [BitVec.toNat_or, ofInt_small _ _ (lim_le kd ha), ofInt_small _ _ (lim_le kd hb)]
  obtain ⟨m, h1, _⟩ := lim_bits kd
  have : a ||| b < lim kd := by rw [h1] at ha hb ⊢; exact Nat.or_lt_two_pow ha hb
  have h2 := wrap_small kd this
  have e : Int.ofNat (a ||| b) = ((a ||| b : Nat) : Int) := rfl
  rw [e] at h2
  rw [h2]
  rfl
theorem lxor_ok {kd : IntKind} {a b : Nat} (ha : a < lim kd) (hb : b < lim kd) : bitsA .xor kd (Int.ofNat a) (Int.ofNat b) = some (.int kd (Int.ofNat (Nat.xor a b))) := by
  simp only [bitsA]
  rw [BitVec.toNat_xor, ofInt_small _ _ (lim_le kd ha), ofInt_small _ _ (lim_le kd hb)]
  obtain ⟨m, h1, _⟩ := lim_bits kd
  have : a ^^^ b < lim kd := by rw [h1] at ha hb ⊢; exact Nat.xor_lt_two_pow ha hb
  have h2 := wrap_small kd this
  have e : Int.ofNat (a ^^^ b) = ((a ^^^ b : Nat) : Int) := rfl
  rw [e] at h2
  rw [h2]
  rfl
theorem landK_spec {op : Nat → Nat → Nat} {kd : IntKind} {x y : Int} {k : Value → Bool} {f : Bool} (h : landK op kd x y k f = true) :
    (∃ a b, x = Int.ofNat a ∧ y = Int.ofNat b ∧ a < lim kd ∧ b < lim kd ∧ k (.int kd (Int.ofNat (op a b))) = true) ∨ f = true := by
  replace h := nat2_spec h; rcases h with ⟨a, b, rfl, rfl, h⟩ | h
  · cases ha : Nat.blt a (lim kd) with
    | false => rw [ha] at h; exact .inr h
    | true =>
      rw [ha] at h
      cases hb : Nat.blt b (lim kd) with
      | false => rw [hb] at h; exact .inr h
      | true =>
        rw [hb] at h
        simp only at h
        rw [natK_eq] at h
        exact .inl ⟨a, b, rfl, rfl, Nat.le_of_ble_eq_true ha, Nat.le_of_ble_eq_true hb, h⟩
  · exact .inr h

/-- What an operation on two ints comes to. -/
theorem iopK_spec {op : BinOp} {d : TypeDesc} {ka kb : IntKind} {x y : Int} {k : Value → Bool} {f : Bool} (hk : isShift op = true ∨ ka = kb) (h : iopK op ka x y k f = true) :
    (∃ v, binA op d (.int ka x) (.int kb y) = some v ∧ k v = true) ∨ f = true := by
  have same : ∀ {op : BinOp}, op ≠ .shl → op ≠ .shr → ka = kb → binA op d (.int ka x) (.int kb y) = intA op ka x y := by
    intro op h1 h2 e
    subst e
    cases op <;> simp_all [binA]
  cases op with
  | add =>
    have e := hk.resolve_left (by decide)
    replace h := nat2_spec h; rcases h with ⟨a, b, rfl, rfl, h⟩ | h
    · rw [wrapN_eq] at h
      exact .inl ⟨_, by rw [same (by decide) (by decide) e]; rfl, h⟩
    · exact .inr h
  | sub =>
    have e := hk.resolve_left (by decide)
    replace h := nat2_spec h; rcases h with ⟨a, b, rfl, rfl, h⟩ | h
    · cases hb : Nat.ble b a with
      | false => rw [hb] at h; exact .inr h
      | true =>
        rw [hb] at h
        simp only at h
        rw [wrapN_eq] at h
        have hle := Nat.le_of_ble_eq_true hb
        refine .inl ⟨_, by rw [same (by decide) (by decide) e]; rfl, ?_⟩
        have : Int.ofNat a - Int.ofNat b = Int.ofNat (Nat.sub a b) := by
          show ((a : Int) - (b : Int)) = ((a - b : Nat) : Int)
          omega
        rw [this]
        exact h
    · exact .inr h
  | mul =>
    have e := hk.resolve_left (by decide)
    replace h := nat2_spec h; rcases h with ⟨a, b, rfl, rfl, h⟩ | h
    · rw [wrapN_eq] at h
      exact .inl ⟨_, by rw [same (by decide) (by decide) e]; rfl, h⟩
    · exact .inr h
  | quo => exact .inr h
  | rem =>
    have e := hk.resolve_left (by decide)
    replace h := nat2_spec h; rcases h with ⟨a, b, rfl, rfl, h⟩ | h
    · cases hb : Nat.beq b 0 with
      | true => rw [hb] at h; exact .inr h
      | false =>
        rw [hb] at h
        simp only at h
        rw [natK_eq] at h
        have hb0 := Nat.ne_of_beq_eq_false hb
        refine .inl ⟨.int ka (Int.ofNat (Nat.mod a b)), ?_, h⟩
        rw [same (by decide) (by decide) e]
        simp only [intA]
        rw [if_neg (by intro hh; exact hb0 (by exact Int.ofNat.inj hh))]
        rfl
    · exact .inr h
  | and =>
    have e := hk.resolve_left (by decide)
    replace h := landK_spec h; rcases h with ⟨a, b, rfl, rfl, ha, hb, h⟩ | h
    · exact .inl ⟨_, by rw [same (by decide) (by decide) e]; exact land_ok ha hb, h⟩
    · exact .inr h
  | or =>
    have e := hk.resolve_left (by decide)
    replace h := landK_spec h; rcases h with ⟨a, b, rfl, rfl, ha, hb, h⟩ | h
    · exact .inl ⟨_, by rw [same (by decide) (by decide) e]; exact lor_ok ha hb, h⟩
    · exact .inr h
  | xor =>
    have e := hk.resolve_left (by decide)
    replace h := landK_spec h; rcases h with ⟨a, b, rfl, rfl, ha, hb, h⟩ | h
    · exact .inl ⟨_, by rw [same (by decide) (by decide) e]; exact lxor_ok ha hb, h⟩
    · exact .inr h
  | shl =>
    replace h := nat2_spec h; rcases h with ⟨a, b, rfl, rfl, h⟩ | h
    · cases hb : Nat.ble b (bitsK ka) with
      | false => rw [hb] at h; exact .inr h
      | true =>
        rw [hb] at h
        simp only at h
        rw [wrapN_eq] at h
        have hle := Nat.le_of_ble_eq_true hb
        rw [bits_eq] at hle
        refine .inl ⟨_, ?_, h⟩
        simp only [binA, shiftA]
        rw [if_neg (by show ¬ ((b : Int) < 0); omega)]
        have hm : Nat.min (Int.ofNat b).toNat ka.bits = b := Nat.min_eq_left hle
        have hm' : min (Int.ofNat b).toNat ka.bits = b := hm
        simp only [hm', if_true]
        congr 2
        all_goals (first | rfl | (congr 1; show (a : Int) * 2 ^ b = ((a * 2 ^ b : Nat) : Int); simp))
    · exact .inr h
  | shr =>
    replace h := nat2_spec h; rcases h with ⟨a, b, rfl, rfl, h⟩ | h
    · cases hb : Nat.ble b (bitsK ka) with
      | false => rw [hb] at h; exact .inr h
      | true =>
        rw [hb] at h
        simp only at h
        rw [natK_eq] at h
        have hle := Nat.le_of_ble_eq_true hb
        rw [bits_eq] at hle
        refine .inl ⟨_, ?_, h⟩
        simp only [binA, shiftA]
        rw [if_neg (by show ¬ ((b : Int) < 0); omega)]
        have hm' : min (Int.ofNat b).toNat ka.bits = b := Nat.min_eq_left hle
        simp only [hm', Bool.false_eq_true, if_false]
        congr 2
        show (a : Int).fdiv (2 ^ b) = ((a / 2 ^ b : Nat) : Int)
        have : ((2 : Int) ^ b) = ((2 ^ b : Nat) : Int) := by simp
        rw [this, Int.fdiv_eq_ediv_of_nonneg _ (Int.natCast_nonneg _)]; rfl
    · exact .inr h
  | andNot => exact .inr h
  | eql =>
    have e := hk.resolve_left (by decide)
    replace h := nat2_spec h; rcases h with ⟨a, b, rfl, rfl, h⟩ | h
    · refine .inl ⟨.bool (Nat.beq a b), ?_, h⟩
      rw [same (by decide) (by decide) e]
      simp only [intA, cmpA, Option.some.injEq, Value.bool.injEq]
      rw [Bool.eq_iff_iff, Nat.beq_eq]; simp <;> omega
    · exact .inr h
  | neq =>
    have e := hk.resolve_left (by decide)
    replace h := nat2_spec h; rcases h with ⟨a, b, rfl, rfl, h⟩ | h
    · refine .inl ⟨.bool (not (Nat.beq a b)), ?_, h⟩
      rw [same (by decide) (by decide) e]
      simp only [intA, cmpA, Option.some.injEq, Value.bool.injEq]
      have hb : Nat.beq a b = (Int.ofNat a == Int.ofNat b) := by rw [Bool.eq_iff_iff, Nat.beq_eq]; simp <;> omega
      rw [hb]; rfl
    · exact .inr h
  | lss =>
    have e := hk.resolve_left (by decide)
    replace h := nat2_spec h; rcases h with ⟨a, b, rfl, rfl, h⟩ | h
    · refine .inl ⟨.bool (Nat.blt a b), ?_, h⟩
      rw [same (by decide) (by decide) e]
      simp only [intA, cmpA, Option.some.injEq, Value.bool.injEq]
      show decide ((a : Int) < (b : Int)) = Nat.ble (a + 1) b
      rw [Bool.eq_iff_iff, Nat.ble_eq]; simp; omega
    · exact .inr h
  | leq =>
    have e := hk.resolve_left (by decide)
    replace h := nat2_spec h; rcases h with ⟨a, b, rfl, rfl, h⟩ | h
    · refine .inl ⟨.bool (Nat.ble a b), ?_, h⟩
      rw [same (by decide) (by decide) e]
      simp only [intA, cmpA, Option.some.injEq, Value.bool.injEq]
      show decide ((a : Int) ≤ (b : Int)) = Nat.ble a b
      rw [Bool.eq_iff_iff, Nat.ble_eq]; simp
    · exact .inr h
  | gtr =>
    have e := hk.resolve_left (by decide)
    replace h := nat2_spec h; rcases h with ⟨a, b, rfl, rfl, h⟩ | h
    · refine .inl ⟨.bool (Nat.blt b a), ?_, h⟩
      rw [same (by decide) (by decide) e]
      simp only [intA, cmpA, Option.some.injEq, Value.bool.injEq]
      show decide ((b : Int) < (a : Int)) = Nat.ble (b + 1) a
      rw [Bool.eq_iff_iff, Nat.ble_eq]; simp; omega
    · exact .inr h
  | geq =>
    have e := hk.resolve_left (by decide)
    replace h := nat2_spec h; rcases h with ⟨a, b, rfl, rfl, h⟩ | h
    · refine .inl ⟨.bool (Nat.ble b a), ?_, h⟩
      rw [same (by decide) (by decide) e]
      simp only [intA, cmpA, Option.some.injEq, Value.bool.injEq]
      show decide ((b : Int) ≤ (a : Int)) = Nat.ble b a
      rw [Bool.eq_iff_iff, Nat.ble_eq]; simp
    · exact .inr h

theorem intOr_spec {v : Value} {k : IntKind → Int → Bool} {f : Bool} (h : intOr v k f = true) : (∃ kd n, v = .int kd n ∧ k kd n = true) ∨ f = true := by
  cases v <;> first | exact .inl ⟨_, _, rfl, h⟩ | exact .inr h
theorem binK_spec {op : BinOp} {d : TypeDesc} {a b : Value} {k : Value → Bool} (h : binK op d a b k = true) : ∃ v, binA op d a b = some v ∧ k v = true := by
  replace h := intOr_spec h; rcases h with ⟨ka, x, rfl, h⟩ | h
  · replace h := intOr_spec h; rcases h with ⟨kb, y, rfl, h⟩ | h
    · cases hb : (or (isShift op) (Nat.beq (idx ka) (idx kb))) with
      | false => rw [hb] at h; exact optA_spec h
      | true =>
        rw [hb] at h
        simp only at h
        have hk : isShift op = true ∨ ka = kb := by
          cases hs : isShift op with
          | true => exact .inl rfl
          | false => rw [hs] at hb; exact .inr (idx_eq hb)
        rcases iopK_spec (d := d) hk h with h | h
        · exact h
        · exact optA_spec h
    · exact optA_spec h
  · exact optA_spec h
end Go.Ab
namespace Go.Ab
open Go
def noCall : Caller := fun _ _ _ => none
noncomputable def plainK (g : Caller → List Value → H → Option (Value × H)) : KNat := fun _ args A k => optK (g noCall args A) k
def ptr1 (id off : Nat) : Value := .pointer (some ⟨id, off, none⟩)
noncomputable def onceK (lock load store unlock : FuncId) : KNat := fun c args A k => Bool.rec (motive := fun _ => Bool) false
  (nthK 0 args fun p => nthK 1 args fun f => ptrK p fun id off =>
    c lock [ptr1 id (off + 1)] A fun _ A1 => c load [ptr1 id off] A1 fun b A2 => boolK b fun b => Bool.rec (motive := fun _ => Bool)
      (optA (calleeA f []) fun q => c q.1 q.2 A2 fun _ A3 => c store [ptr1 id off, .bool true] A3 fun _ A4 => c unlock [ptr1 id (off + 1)] A4 fun _ A5 => k (.tuple #[]) A5) false b) (Nat.beq args.length 2)
end Go.Ab
namespace Go.Ab
open Go
variable [Kn]

/-! ### More rounds, the same answer -/
def Le (c c' : Caller) : Prop := ∀ f args A r, c f args A = some r → c' f args A = some r
theorem Le.refl (c : Caller) : Le c c := fun _ _ _ _ h => h
theorem Le.trans {a b c : Caller} (h : Le a b) (k : Le b c) : Le a c := fun f args A r x => k f args A r (h f args A r x)
theorem runOp_mono {c c' : Caller} (h : Le c c') {op : XOp} {t : Tm} {A : H} {r : Value × H} (hr : runOp c op t A = some r) : runOp c' op t A = some r := by
  cases op <;> first | exact hr | skip
  · exact h _ _ _ _ hr
  · simp only [runOp] at hr ⊢
    split at hr
    · rename_i hc; exact h _ _ _ _ hr
    · cases hr
  · simp only [runOp] at hr ⊢
    split at hr
    · rename_i hc; exact h _ _ _ _ hr
    · cases hr
theorem evalOne_mono {c c' : Caller} (h : Le c c') {o : XOper} {t : Tm} {A : H} {r : Tm × H} (hr : evalOne c o t A = some r) : evalOne c' o t A = some r := by
  unfold evalOne at hr ⊢
  cases hw : wantedA t o.guard with
  | false => rw [hw] at hr; exact hr
  | true =>
    rw [hw] at hr
    simp only [cond_true] at hr ⊢
    split at hr
    · rename_i v A' hro
      rw [runOp_mono h hro]; exact hr
    · cases hr
theorem evalOps_mono {c c' : Caller} (h : Le c c') : ∀ {l : List XOper} {t : Tm} {A : H} {r : Tm × H}, evalOps c l t A = some r → evalOps c' l t A = some r := by
  intro l
  induction l with
  | nil => intro t A r hr; exact hr
  | cons o l ih =>
    intro t A r hr
    simp only [evalOps] at hr ⊢
    split at hr
    · rename_i t1 A1 h1
      rw [evalOne_mono h h1]; exact ih hr
    · cases hr
theorem evalDraw_mono {c c' : Caller} (h : Le c c') : ∀ {l : List (XOper × List XOper)} {t : Tm} {A : H} {r : Tm × H}, evalDraw c l t A = some r → evalDraw c' l t A = some r := by
  intro l
  induction l with
  | nil => intro t A r hr; exact hr
  | cons o l ih =>
    intro t A r hr
    obtain ⟨o, re⟩ := o
    simp only [evalDraw] at hr ⊢
    split at hr
    · rename_i t1 A1 h1
      rw [evalOne_mono h h1]
      simp only
      cases ha : re.all (again t1 A1) with
      | false => rw [ha] at hr; cases hr
      | true => rw [ha] at hr; exact ih hr
    · cases hr
theorem evalC_mono {c c' : Caller} (h : Le c c') : ∀ {n m : Nat}, n ≤ m → ∀ {x : XCode} {t : Tm} {A : H} {r : XExit × Tm × H}, evalC c n x t A = some r → evalC c' m x t A = some r := by
  intro n
  induction n with
  | zero => intro m _ x t A r hr; simp [evalC] at hr
  | succ n ih =>
    intro m hm x t A r hr
    obtain ⟨m, rfl⟩ : ∃ m', m = m' + 1 := ⟨m - 1, by omega⟩
    have hm : n ≤ m := by omega
    cases x with
    | skip => simpa [evalC] using hr
    | ops l =>
      simp only [evalC] at hr ⊢
      split at hr
      · rename_i h1; rw [evalOps_mono h h1]; exact hr
      · cases hr
    | draw l =>
      simp only [evalC] at hr ⊢
      split at hr
      · rename_i h1; rw [evalDraw_mono h h1]; exact hr
      · cases hr
    | seq a b =>
      simp only [evalC] at hr ⊢
      cases ha : evalC c n a t A with
      | none => rw [ha] at hr; cases hr
      | some q =>
        rw [ih hm ha]
        rw [ha] at hr
        obtain ⟨xe, t1, A1⟩ := q
        cases xe with
        | normal => exact ih hm hr
        | exit i => exact hr
        | ret => exact hr
    | cond x a b =>
      simp only [evalC] at hr ⊢
      split at hr
      · rename_i hv; exact ih hm hr
      · rename_i hv; exact ih hm hr
      · cases hr
    | block id b =>
      simp only [evalC] at hr ⊢
      cases ha : evalC c n b t A with
      | none => rw [ha] at hr; cases hr
      | some q => rw [ih hm ha]; rw [ha] at hr; exact hr
    | loop b =>
      simp only [evalC] at hr ⊢
      cases ha : evalC c n b t A with
      | none => rw [ha] at hr; cases hr
      | some q =>
        rw [ih hm ha]
        rw [ha] at hr
        obtain ⟨xe, t1, A1⟩ := q
        cases xe with
        | normal => exact ih hm hr
        | exit i => exact hr
        | ret => exact hr
    | exit id => simpa [evalC] using hr
    | ret => simpa [evalC] using hr
    | bad w => simp [evalC] at hr

/-- A told answer says no less where its callees do. -/
def NatMono (code : FuncId → Option XFun) : Prop := ∀ f g, code f = some (.nat g) → ∀ c c', Le c c' → ∀ args A r, g c args A = some r → g c' args A = some r
section
variable {code : FuncId → Option XFun}
theorem evalF_succ (hn : NatMono code) : ∀ n, Le (evalF code n) (evalF code (n + 1)) := by
  intro n
  induction n with
  | zero => intro f args A r h; simp [evalF] at h
  | succ n ih =>
    intro f args A r h
    rw [evalF] at h ⊢
    have up : ∀ {x : XCode} {t : Tm} {A : H} {r : XExit × Tm × H}, evalC (evalF code n) n x t A = some r → evalC (evalF code (n + 1)) (n + 1) x t A = some r := fun hr => evalC_mono ih (Nat.le_succ n) hr
    split at h
    · cases h
    · rename_i g hg; exact hn f g hg _ _ ih args A r h
    · rename_i nt rs x fo das y hf
      cases hb : Nat.ble args.length nt with
      | false => rw [hb] at h; cases h
      | true =>
        rw [hb] at h
        simp only [cond_true] at h ⊢
        split at h
        case h_2 => cases h
        rename_i t1 A1 he1
        rw [up he1]
        simp only
        split at h
        case h_2 => cases h
        rename_i g dl hca
        split at h
        case h_1 => cases h
        case h_3 => cases h
        rename_i xe t2 A2 hne he2
        rw [up he2]
        have hne' : ∀ {α : Type} (u v : α), (match (some (xe, t2, A2) : Option (XExit × Tm × H)) with | some (.exit _, _, _) => u | some (_, _, _) => v | none => u) = v := fun u v => by cases xe <;> first | rfl | exact absurd rfl (hne _)
        split at h
        case h_2 => cases h
        rename_i gx hgx
        cases hg1 : (Nat.ble dl.length gx.ntmps && gx.results.isEmpty) with
        | false => rw [hg1] at h; cases h
        | true =>
          rw [hg1] at h
          simp only [cond_true] at h
          split at h
          case h_1 => cases h
          case h_3 => cases h
          rename_i xe3 t3 A3 hne3 he3
          cases xe with
          | exit i => exact absurd rfl (hne i)
          | _ =>
            simp only [hgx, hg1, cond_true, up he3]
            cases xe3 with
            | exit i => exact absurd rfl (hne3 i)
            | _ => exact h
    · rename_i fn hf
      cases hb : Nat.ble args.length fn.ntmps with
      | false => rw [hb] at h; cases h
      | true =>
        rw [hb] at h
        simp only [cond_true] at h ⊢
        cases he : evalC (evalF code n) n fn.body (argsT args 0 .nil) A with
        | none => rw [he] at h; cases h
        | some q => rw [evalC_mono ih (Nat.le_succ n) he]; rw [he] at h; exact h
theorem evalF_mono (hn : NatMono code) {n m : Nat} (h : n ≤ m) : Le (evalF code n) (evalF code m) := by
  induction h with
  | refl => exact Le.refl _
  | step h ih => exact ih.trans (evalF_succ hn _)
end

/-! ### Operations -/
/-- What the quick caller says is so. -/
def CKOk (code : FuncId → Option XFun) (c : CallK) : Prop := ∀ f args A k, c f args A k = true → ∃ n v A', evalF code n f args A = some (v, A') ∧ k v A' = true
section
variable {code : FuncId → Option XFun} {c : CallK} {T : TK} {t : Tm} {A : H}
theorem slow_spec (hT : TR T t) {op : XOp} {k : Value → H → Bool} (h : slowK op T A c k = true) : ∃ v A', evalOp op (val t) A = some (v, A') ∧ k v A' = true := by
  obtain ⟨v, A', h1, h2⟩ := optK_spec h
  rw [hT.fn] at h1
  exact ⟨v, A', h1, h2⟩
theorem mapR_eq (hT : TR T t) (l : List Operand) : mapR T l = l.map (val t) := by
  induction l with
  | nil => rfl
  | cons o l ih => show rdK o T :: mapR T l = _; rw [ih, hT.rd]; rfl
theorem ofNatK_spec {n : Int} {k : Nat → Bool} (h : ofNatK n k = true) : ∃ a, n = Int.ofNat a ∧ k a = true := by
  cases n with
  | ofNat a => exact ⟨a, rfl, h⟩
  | negSucc a => cases h
theorem one1_spec {n : Nat} {agg : Bool} (h : one1 n agg = true) : n = 1 ∧ agg = false := by
  cases agg with
  | false => exact ⟨Nat.eq_of_beq_eq_true h, rfl⟩
  | true => cases h
theorem add_off (b o n : Nat) : (⟨b, o, none⟩ : Addr).add n = ⟨b, o + n, none⟩ := by
  unfold Addr.add
  split
  · subst_vars; rfl
  · rfl

/-- An operation that calls nobody, or one that does. -/
theorem kOp_spec (hc : CKOk code c) (hT : TR T t) {op : XOp} {k : Value → H → Bool} (h : kOp op T A c k = true) : ∃ n v A', runOp (evalF code n) op t A = some (v, A') ∧ k v A' = true := by
  have plain : ∀ {op : XOp}, (∀ cl, runOp cl op t A = evalOp op (val t) A) → (∃ v A', evalOp op (val t) A = some (v, A') ∧ k v A' = true) → ∃ n v A', runOp (evalF code n) op t A = some (v, A') ∧ k v A' = true := by
    intro op h1 ⟨v, A', h2, h3⟩
    exact ⟨0, v, A', by rw [h1, h2], h3⟩
  cases op with
  | move x => exact plain (fun _ => rfl) ⟨_, _, rfl, by rw [← hT.rd]; exact h⟩
  | pick cc a b =>
    refine plain (fun _ => rfl) ?_
    obtain ⟨x, h1, h2⟩ := boolK_spec (v := rdK cc T) h
    refine ⟨_, _, by simp only [evalOp, evalOp0, ← hT.rd, h1, boolV, Option.map_some]; rfl, ?_⟩
    cases x <;> exact h2
  | alloc e z =>
    refine plain (fun _ => rfl) ⟨_, _, rfl, ?_⟩
    have h' : pushHK A (.cells false e z) (fun n A' => k (.pointer (some ⟨n, 0, none⟩)) A') = true := h
    rw [pushHK_eq] at h'
    exact h'
  | box e x =>
    refine plain (fun _ => rfl) ⟨_, _, rfl, ?_⟩
    have h' : pushHK A (.cells false e (cellsL (rdK x T))) (fun n A' => k (.pointer (some ⟨n, 0, none⟩)) A') = true := h
    rw [pushHK_eq, hT.rd] at h'
    exact h'
  | build z ps => exact plain (fun _ => rfl) (slow_spec (c := c) hT h)
  | buildSlice e n z ps => exact plain (fun _ => rfl) (slow_spec (c := c) hT h)
  | load n agg a =>
    refine plain (fun _ => rfl) ?_
    obtain ⟨b, o, h1, h⟩ := ptrK_spec (v := rdK a T) h
    obtain ⟨ro, e, cs, h2, h⟩ := cellsK_spec h
    rw [hT.rd] at h1
    cases h1b : one1 n agg with
    | true =>
      rw [h1b] at h
      obtain ⟨rfl, rfl⟩ := one1_spec h1b
      obtain ⟨v, h3, h4⟩ := nthK_spec h
      exact ⟨v, A, by simp only [evalOp, evalOp0, h1, loadA, h2, cut_one h3, Option.bind_some, oneV, cond_false, Option.map_some], h4⟩
    | false =>
      rw [h1b] at h
      obtain ⟨l, h3, h⟩ := optA_spec h
      obtain ⟨v, h4, h5⟩ := optA_spec h
      exact ⟨v, A, by simp only [evalOp, evalOp0, h1, loadA, h2, h3, Option.bind_some, h4, Option.map_some], h5⟩
  | store n a x =>
    refine plain (fun _ => rfl) ?_
    have h' : Bool.rec (motive := fun _ => Bool) (slowK (.store n a x) T A c k)
      (ptrK (rdK a T) fun b o => cellsK A b fun ro e c => Bool.rec (motive := fun _ => Bool) (setNK o c (rdK x T) fun c' => setHK A b (.cells false e c') fun A' => k noV A') false ro) (and (Nat.beq n 1) (oneK (rdK x T))) = true := h
    cases hb : and (Nat.beq n 1) (oneK (rdK x T)) with
    | false => rw [hb] at h'; exact slow_spec (c := c) hT h'
    | true =>
      rw [hb] at h'
      simp only at h'
      have hb' : Nat.beq n 1 = true ∧ oneK (rdK x T) = true := by
        cases h1 : Nat.beq n 1 <;> cases h2 : oneK (rdK x T) <;> simp_all
      have hn := Nat.eq_of_beq_eq_true hb'.1
      subst hn
      obtain ⟨k1, k2⟩ := oneK_spec hb'.2
      obtain ⟨b, o, h1, h'⟩ := ptrK_spec h'
      obtain ⟨ro, e, cs, h2, h'⟩ := cellsK_spec h'
      cases ro with
      | true => cases h'
      | false =>
        simp only at h'
        obtain ⟨h3, h4⟩ := setNK_spec h'
        rw [setHK_eq] at h4
        rw [hT.rd] at h1 k1 k2 h4
        refine ⟨_, _, ?_, h4⟩
        simp only [evalOp, evalOp0, h1, k1, List.length_cons, List.length_nil]
        simp only [storeA, h2, List.all_cons, k2, List.all_nil, over_one h3]
        rfl
  | nilCheck x =>
    refine plain (fun _ => rfl) ?_
    obtain ⟨b, o, h1, h⟩ := ptrK_spec (v := rdK x T) h
    rw [hT.rd] at h1
    exact ⟨_, _, by simp only [evalOp, evalOp0, h1], h⟩
  | bin op d x y =>
    refine plain (fun _ => rfl) ?_
    rcases intOr_spec (v := rdK x T) h with ⟨_, _, _, h⟩ | h
    · rcases intOr_spec (v := rdK y T) h with ⟨_, _, _, h⟩ | h
      · obtain ⟨v, h1, h2⟩ := binK_spec (a := rdK x T) (b := rdK y T) h
        rw [hT.rd, hT.rd] at h1
        exact ⟨v, A, by simp only [evalOp, evalOp0, h1, Option.map_some], h2⟩
      · exact slow_spec (c := c) hT h
    · exact slow_spec (c := c) hT h
  | un op x =>
    refine plain (fun _ => rfl) ?_
    cases op with
    | not =>
      obtain ⟨b, h1, h⟩ := boolK_spec (v := rdK x T) h
      rw [hT.rd] at h1
      exact ⟨_, _, by simp only [evalOp, evalOp0, h1, unA, Option.map_some], h⟩
    | neg => exact slow_spec (c := c) hT h
    | xor => exact slow_spec (c := c) hT h
    | plus => exact slow_spec (c := c) hT h
  | toInt kd x =>
    refine plain (fun _ => rfl) ?_
    rcases intOr_spec (v := rdK x T) h with ⟨ki, n, h1, h⟩ | h
    · rw [wrapK_eq] at h
      rw [hT.rd] at h1
      exact ⟨_, _, by simp only [evalOp, evalOp0, h1, intV, Option.map_some], h⟩
    · exact slow_spec (c := c) hT h
  | toUnsafe x => exact plain (fun _ => rfl) (slow_spec (c := c) hT h)
  | assert u z x => exact plain (fun _ => rfl) (slow_spec (c := c) hT h)
  | isNil g x y => exact plain (fun _ => rfl) (slow_spec (c := c) hT h)
  | eqS g l x y => exact plain (fun _ => rfl) (slow_spec (c := c) hT h)
  | same x => exact plain (fun _ => rfl) (slow_spec (c := c) hT h)
  | toBytes e x => exact plain (fun _ => rfl) (slow_spec (c := c) hT h)
  | ofBytes x => exact plain (fun _ => rfl) (slow_spec (c := c) hT h)
  | fieldAddr off x =>
    refine plain (fun _ => rfl) ?_
    obtain ⟨b, o, h1, h⟩ := ptrK_spec (v := rdK x T) h
    rw [natK_eq] at h
    rw [hT.rd] at h1
    exact ⟨_, _, by simp only [evalOp, evalOp0, h1, add_off]; rfl, h⟩
  | indexAddr arr size x i =>
    refine plain (fun _ => rfl) ?_
    obtain ⟨ki, n, h1, h⟩ := intK_spec (v := rdK i T) h
    obtain ⟨m, rfl, h⟩ := ofNatK_spec h
    rw [hT.rd] at h1
    cases arr with
    | none =>
      simp only at h
      obtain ⟨a, l, cp, h2, h⟩ := sliceK_spec h
      obtain ⟨b, o, ha, h9⟩ := addrK_spec h
      clear h
      subst ha
      rw [hT.rd] at h2
      cases hb : Nat.blt m l with
      | false => rw [hb] at h9; cases h9
      | true =>
        rw [hb] at h9
        simp only at h9
        rw [natK_eq] at h9
        have h := h9
        have hlt : m < l := Nat.le_of_ble_eq_true hb
        refine ⟨_, _, ?_, h⟩
        simp only [evalOp, evalOp0, h1, h2, intV]
        rw [if_pos ⟨Int.natCast_nonneg m, by show (m : Int) < (l : Int); omega⟩, add_off]
        rfl
    | some l =>
      simp only at h
      obtain ⟨b, o, h2, h⟩ := ptrK_spec h
      rw [hT.rd] at h2
      cases hb : Nat.blt m l with
      | false => rw [hb] at h; cases h
      | true =>
        rw [hb] at h
        simp only at h
        rw [natK_eq] at h
        have hlt : m < l := Nat.le_of_ble_eq_true hb
        refine ⟨_, _, ?_, h⟩
        simp only [evalOp, evalOp0, h1, h2, intV]
        rw [if_pos ⟨Int.natCast_nonneg m, by show (m : Int) < (l : Int); omega⟩, add_off]
        rfl
  | field off size agg x =>
    refine plain (fun _ => rfl) ?_
    obtain ⟨cs, h1, h⟩ := aggK_spec (v := rdK x T) h
    rw [hT.rd] at h1
    cases h1b : one1 size agg with
    | true =>
      rw [h1b] at h
      obtain ⟨rfl, rfl⟩ := one1_spec h1b
      obtain ⟨v, h3, h4⟩ := nthK_spec h
      exact ⟨v, A, by simp only [evalOp, evalOp0, h1, cut_one h3, Option.bind_some, oneV, cond_false, Option.map_some], h4⟩
    | false =>
      rw [h1b] at h
      obtain ⟨l, h3, h⟩ := optA_spec h
      obtain ⟨v, h4, h5⟩ := optA_spec h
      exact ⟨v, A, by simp only [evalOp, evalOp0, h1, h3, Option.bind_some, h4, Option.map_some], h5⟩
  | index arr x i =>
    refine plain (fun _ => rfl) ?_
    cases arr with
    | some q => exact slow_spec (c := c) hT h
    | none =>
      obtain ⟨ki, n, h1, h⟩ := intK_spec (v := rdK i T) h
      obtain ⟨m, rfl, h⟩ := ofNatK_spec h
      rcases strOr_spec h with ⟨s, h2, h⟩ | h
      · obtain ⟨b, h3, h⟩ := nthK_spec h
        rw [natK_eq] at h
        rw [hT.rd] at h1 h2
        refine ⟨_, _, ?_, h⟩
        simp only [evalOp, evalOp0, h1, h2, intV]
        rw [if_pos (show (0 : Int) ≤ Int.ofNat m from Int.natCast_nonneg m)]
        have : (Int.ofNat m).toNat = m := rfl
        rw [this, h3]
        rfl
      · exact slow_spec (c := c) hT h
  | sliceStr x lo hi => exact plain (fun _ => rfl) (slow_spec (c := c) hT h)
  | slice e s a x lo hi mx => exact plain (fun _ => rfl) (slow_spec (c := c) hT h)
  | extract x i =>
    refine plain (fun _ => rfl) ?_
    obtain ⟨vs, h1, h⟩ := tupK_spec (v := rdK x T) h
    obtain ⟨v, h3, h4⟩ := nthK_spec h
    rw [hT.rd] at h1
    have hg : ∀ (l : List Value) (i : Nat), getN l i = l[i]? := by
      intro l
      induction l with
      | nil => intro i; rfl
      | cons x l ih =>
        intro i
        simp only [getN]
        cases i with
        | zero => rfl
        | succ i =>
          have hb : Nat.beq (i + 1) 0 = false := rfl
          rw [hb]
          simp only [cond_false, List.getElem?_cons_succ]
          exact ih i
    exact ⟨v, A, by simp only [evalOp, evalOp0, h1, hg, h3, Option.map_some], h4⟩
  | makeIface ty x => exact plain (fun _ => rfl) ⟨_, _, rfl, by rw [← hT.rd]; exact h⟩
  | makeFunc fn fs cs => exact plain (fun _ => rfl) (slow_spec (c := c) hT h)
  | makeMap => exact plain (fun _ => rfl) (slow_spec (c := c) hT h)
  | mapPut d m kk x => exact plain (fun _ => rfl) (slow_spec (c := c) hT h)
  | lookup d z m kk ok => exact plain (fun _ => rfl) (slow_spec (c := c) hT h)
  | mapDel d m kk => exact plain (fun _ => rfl) (slow_spec (c := c) hT h)
  | makeSlice e b s z l cp => exact plain (fun _ => rfl) (slow_spec (c := c) hT h)
  | rangeStr x => exact plain (fun _ => rfl) (slow_spec (c := c) hT h)
  | nextStr x => exact plain (fun _ => rfl) (slow_spec (c := c) hT h)
  | call f args =>
    have h' : c f (mapR T args) A k = true := h
    rw [mapR_eq hT] at h'
    obtain ⟨n, v, A', h1, h2⟩ := hc _ _ _ _ h'
    exact ⟨n, v, A', h1, h2⟩
  | callV f args =>
    obtain ⟨p, h1, h⟩ := optA_spec (o := calleeA (rdK f T) (mapR T args)) h
    rw [mapR_eq hT, hT.rd] at h1
    obtain ⟨n, v, A', h2, h3⟩ := hc _ _ _ _ h
    exact ⟨n, v, A', by simp only [runOp, h1]; exact h2, h3⟩
  | callI find r args =>
    obtain ⟨p, h1, h⟩ := optA_spec (o := calleeM find (rdK r T) (mapR T args)) h
    rw [mapR_eq hT, hT.rd] at h1
    obtain ⟨n, v, A', h2, h3⟩ := hc _ _ _ _ h
    exact ⟨n, v, A', by simp only [runOp, h1]; exact h2, h3⟩
  | len arr x =>
    refine plain (fun _ => rfl) ?_
    cases arr with
    | none =>
      obtain ⟨a, l, cp, h1, h⟩ := sliceK_spec (v := rdK x T) h
      rw [hT.rd] at h1
      exact ⟨_, _, by simp only [evalOp, evalOp0, h1]; rfl, h⟩
    | some n => exact ⟨_, _, by simp only [evalOp, evalOp0]; rfl, h⟩
  | lenStr x =>
    refine plain (fun _ => rfl) ?_
    rcases strOr_spec (v := rdK x T) h with ⟨s, h1, h⟩ | h
    · rw [natK_eq] at h
      rw [hT.rd] at h1
      exact ⟨_, _, by simp only [evalOp, evalOp0, h1]; rfl, h⟩
    · exact slow_spec (c := c) hT h
  | append e s b x y => exact plain (fun _ => rfl) (slow_spec (c := c) hT h)
  | copy s x y => exact plain (fun _ => rfl) (slow_spec (c := c) hT h)
  | clear z x => exact plain (fun _ => rfl) (slow_spec (c := c) hT h)
  | minmax m xs => exact plain (fun _ => rfl) (slow_spec (c := c) hT h)
  | ext kd xs => exact plain (fun _ => rfl) (slow_spec (c := c) hT h)
  | bad w => cases h
end

/-! ### Code -/
section
variable {code : FuncId → Option XFun} {c : CallK}
theorem boolOr_spec {v : Value} {k : Bool → Bool} {f : Bool} (h : boolOr v k f = true) : (∃ b, v = .bool b ∧ k b = true) ∨ ((∀ b, v ≠ .bool b) ∧ f = true) := by
  cases v <;> first | exact .inl ⟨_, rfl, h⟩ | exact .inr ⟨(fun b hb => by cases hb), h⟩
theorem guardK_spec {T : TK} {t : Tm} (hT : TR T t) {g : Option (Tmp × Bool)} {k : Bool → Bool} (h : guardK g T k = true) : k (wantedA t g) = true := by
  cases g with
  | none => exact h
  | some p =>
    obtain ⟨i, w⟩ := p
    have hv := hT i
    simp only [wantedA]
    rcases boolOr_spec (v := rdT i T) h with ⟨b, h1, h2⟩ | ⟨h1, h2⟩
    · rw [hv, h1]
      simp only
      cases b <;> cases w <;> exact h2
    · rw [hv]
      split
      · rename_i b hb; exact absurd hb (h1 b)
      · exact h2
theorem kOne_spec (hc : CKOk code c) {T : TK} {t : Tm} {A : H} (hT : TR T t) {o : XOper} {k : ContK} (h : kOne o T A c k = true) : ∃ n t' A', evalOne (evalF code n) o t A = some (t', A') ∧ ∃ T', TR T' t' ∧ k T' A' = true := by
  obtain ⟨dst, g, op⟩ := o
  have h' := guardK_spec hT (g := g) (k := fun w => Bool.rec (motive := fun _ => Bool) (putD dst noV T fun T' => k T' A) (kOp op T A c fun v A' => putD dst v T fun T' => k T' A') w) h
  simp only [evalOne]
  cases hw : wantedA t g with
  | false =>
    rw [hw] at h'
    obtain ⟨T', k1, k2⟩ := hT.putD h'
    exact ⟨0, _, A, rfl, T', k1, k2⟩
  | true =>
    rw [hw] at h'
    obtain ⟨n, v, A', k1, k2⟩ := kOp_spec hc hT h'
    obtain ⟨T', k3, k4⟩ := hT.putD k2
    exact ⟨n, _, A', by simp only [cond_true, k1], T', k3, k4⟩
theorem kOps_spec (hn : NatMono code) (hc : CKOk code c) : ∀ {l : List XOper} {T : TK} {t : Tm} {A : H}, TR T t → ∀ {k : ContK}, kOps l T A c k = true → ∃ n t' A', evalOps (evalF code n) l t A = some (t', A') ∧ ∃ T', TR T' t' ∧ k T' A' = true := by
  intro l
  induction l with
  | nil => intro T t A hT k h; exact ⟨0, t, A, rfl, T, hT, h⟩
  | cons o l ih =>
    intro T t A hT k h
    obtain ⟨n1, t1, A1, h1, T1, hT1, h⟩ := kOne_spec hc hT (k := fun T' A' => kOps l T' A' c k) h
    obtain ⟨n2, t2, A2, h2, T2, hT2, h⟩ := ih hT1 h
    refine ⟨max n1 n2, t2, A2, ?_, T2, hT2, h⟩
    simp only [evalOps]
    rw [evalOne_mono (evalF_mono hn (Nat.le_max_left n1 n2)) h1]
    exact evalOps_mono (evalF_mono hn (Nat.le_max_right n1 n2)) h2
theorem again_eq {T : TK} {t : Tm} (hT : TR T t) (A : H) (o : XOper) : againR (fun o => rdK o T) A o = again t A o := by
  unfold againR again
  rw [hT.fn]
  cases o.guard with
  | none => rfl
  | some p => rfl
theorem allK_eq {T : TK} {t : Tm} (hT : TR T t) (A : H) (l : List XOper) : allK (fun o => rdK o T) A l = l.all (again t A) := by
  induction l with
  | nil => rfl
  | cons o l ih =>
    show (Bool.rec (motive := fun _ => Bool) false (allK (fun o => rdK o T) A l) (againR (fun o => rdK o T) A o)) = _
    rw [again_eq hT, ih]
    cases h : again t A o <;> simp [h]
theorem kDraw_spec (hn : NatMono code) (hc : CKOk code c) : ∀ {l : List (XOper × List XOper)} {T : TK} {t : Tm} {A : H}, TR T t → ∀ {k : ContK}, kDraw l T A c k = true → ∃ n t' A', evalDraw (evalF code n) l t A = some (t', A') ∧ ∃ T', TR T' t' ∧ k T' A' = true := by
  intro l
  induction l with
  | nil => intro T t A hT k h; exact ⟨0, t, A, rfl, T, hT, h⟩
  | cons o l ih =>
    intro T t A hT k h
    obtain ⟨o, re⟩ := o
    obtain ⟨n1, t1, A1, h1, T1, hT1, h⟩ := kOne_spec hc hT (k := fun T' A' => Bool.rec (motive := fun _ => Bool) false (kDraw l T' A' c k) (allK (fun o => rdK o T') A' re)) h
    rw [allK_eq hT1] at h
    cases ha : re.all (again t1 A1) with
    | false => rw [ha] at h; cases h
    | true =>
      rw [ha] at h
      obtain ⟨n2, t2, A2, h2, T2, hT2, h⟩ := ih hT1 h
      refine ⟨max n1 n2, t2, A2, ?_, T2, hT2, h⟩
      simp only [evalDraw]
      rw [evalOne_mono (evalF_mono hn (Nat.le_max_left n1 n2)) h1]
      simp only [ha, cond_true]
      exact evalDraw_mono (evalF_mono hn (Nat.le_max_right n1 n2)) h2

/-- How it goes on from an exit. -/
def after (env : Nat → ContK) (ret k : ContK) : XExit → ContK
  | .normal => k
  | .exit i => env i
  | .ret => ret
def CSpec (code : FuncId → Option XFun) (x : XCode) (t : Tm) (A : H) (env : Nat → ContK) (ret k : ContK) : Prop :=
  ∃ n xe t' A', evalC (evalF code n) n x t A = some (xe, t', A') ∧ ∃ T', TR T' t' ∧ after env ret k xe T' A' = true
theorem kC_spec (hn : NatMono code) (hc : CKOk code c) : ∀ (x : XCode) {T : TK} {t : Tm} {A : H}, TR T t → ∀ {env : Nat → ContK} {ret k : ContK}, kC x c env ret k T A = true → CSpec code x t A env ret k := by
  have lift : ∀ {n m : Nat} {x : XCode} {t : Tm} {A : H} {r : XExit × Tm × H}, n ≤ m → evalC (evalF code n) n x t A = some r → evalC (evalF code m) m x t A = some r := fun h hr => evalC_mono (evalF_mono hn h) h hr
  have up : ∀ {n m m' : Nat} {x : XCode} {t : Tm} {A : H} {r : XExit × Tm × H}, n ≤ m → m ≤ m' → evalC (evalF code n) n x t A = some r → evalC (evalF code m') m x t A = some r := fun h h' hr => evalC_mono (evalF_mono hn (Nat.le_trans h h')) h hr
  intro x
  induction x with
  | skip => intro T t A hT env ret k h; exact ⟨1, .normal, t, A, rfl, T, hT, h⟩
  | ops l =>
    intro T t A hT env ret k h
    obtain ⟨n, t', A', h1, T', hT', h⟩ := kOps_spec hn hc hT (l := l) (k := k) h
    refine ⟨n + 1, .normal, t', A', ?_, T', hT', h⟩
    simp only [evalC]
    rw [evalOps_mono (evalF_mono hn (Nat.le_succ n)) h1]
  | draw l =>
    intro T t A hT env ret k h
    obtain ⟨n, t', A', h1, T', hT', h⟩ := kDraw_spec hn hc hT (l := l) (k := k) h
    refine ⟨n + 1, .normal, t', A', ?_, T', hT', h⟩
    simp only [evalC]
    rw [evalDraw_mono (evalF_mono hn (Nat.le_succ n)) h1]
  | seq a b iha ihb =>
    intro T t A hT env ret k h
    obtain ⟨n1, xe, t1, A1, h1, T1, hT1, h⟩ := iha hT (env := env) (ret := ret) (k := fun T A => kC b c env ret k T A) h
    cases xe with
    | normal =>
      obtain ⟨n2, xe2, t2, A2, h2, T2, hT2, h⟩ := ihb hT1 (env := env) (ret := ret) (k := k) h
      refine ⟨max n1 n2 + 1, xe2, t2, A2, ?_, T2, hT2, h⟩
      simp only [evalC]
      rw [up (Nat.le_max_left n1 n2) (Nat.le_succ _) h1]
      exact up (Nat.le_max_right n1 n2) (Nat.le_succ _) h2
    | exit i => exact ⟨n1 + 1, .exit i, t1, A1, by simp only [evalC]; rw [up (Nat.le_refl _) (Nat.le_succ _) h1], T1, hT1, h⟩
    | ret => exact ⟨n1 + 1, .ret, t1, A1, by simp only [evalC]; rw [up (Nat.le_refl _) (Nat.le_succ _) h1], T1, hT1, h⟩
  | cond x a b iha ihb =>
    intro T t A hT env ret k h
    obtain ⟨v, h1, h⟩ := boolK_spec (v := rdK x T) h
    rw [hT.rd] at h1
    cases v with
    | true =>
      obtain ⟨n, xe, t', A', h2, r⟩ := iha hT (env := env) (ret := ret) (k := k) h
      exact ⟨n + 1, xe, t', A', by simp only [evalC, h1]; exact up (Nat.le_refl _) (Nat.le_succ _) h2, r⟩
    | false =>
      obtain ⟨n, xe, t', A', h2, r⟩ := ihb hT (env := env) (ret := ret) (k := k) h
      exact ⟨n + 1, xe, t', A', by simp only [evalC, h1]; exact up (Nat.le_refl _) (Nat.le_succ _) h2, r⟩
  | block id b ih =>
    intro T t A hT env ret k h
    obtain ⟨n, xe, t', A', h1, T', hT', h⟩ := ih hT (env := fun i T A => Bool.rec (motive := fun _ => Bool) (env i T A) (k T A) (Nat.beq i id)) (ret := ret) (k := k) h
    cases xe with
    | normal => exact ⟨n + 1, .normal, t', A', by simp only [evalC]; rw [up (Nat.le_refl _) (Nat.le_succ _) h1], T', hT', h⟩
    | ret => exact ⟨n + 1, .ret, t', A', by simp only [evalC]; rw [up (Nat.le_refl _) (Nat.le_succ _) h1], T', hT', h⟩
    | exit i =>
      simp only [after] at h
      cases hb : Nat.beq i id with
      | true =>
        rw [hb] at h
        exact ⟨n + 1, .normal, t', A', by simp only [evalC]; rw [up (Nat.le_refl _) (Nat.le_succ _) h1]; simp only [hb, cond_true], T', hT', h⟩
      | false =>
        rw [hb] at h
        exact ⟨n + 1, .exit i, t', A', by simp only [evalC]; rw [up (Nat.le_refl _) (Nat.le_succ _) h1]; simp only [hb, cond_false], T', hT', h⟩
  | loop b ih =>
    intro T t A hT env ret k h
    have key : ∀ (m : Nat) {T : TK} {t : Tm} {A : H}, TR T t → loopK (fun self T A => kC b c env ret self T A) m T A = true → CSpec code (.loop b) t A env ret k := by
      intro m
      induction m with
      | zero => intro T t A _ h; cases h
      | succ m ihm =>
        intro T t A hT h
        obtain ⟨n1, xe, t1, A1, h1, T1, hT1, h⟩ := ih hT (env := env) (ret := ret) (k := loopK (fun self T A => kC b c env ret self T A) m) h
        cases xe with
        | normal =>
          obtain ⟨n2, xe2, t2, A2, h2, T2, hT2, h⟩ := ihm hT1 h
          refine ⟨max n1 n2 + 1, xe2, t2, A2, ?_, T2, hT2, h⟩
          rw [evalC]
          rw [up (Nat.le_max_left n1 n2) (Nat.le_succ _) h1]
          exact up (Nat.le_max_right n1 n2) (Nat.le_succ _) h2
        | exit i => exact ⟨n1 + 1, .exit i, t1, A1, by rw [evalC, up (Nat.le_refl _) (Nat.le_succ _) h1], T1, hT1, h⟩
        | ret => exact ⟨n1 + 1, .ret, t1, A1, by rw [evalC, up (Nat.le_refl _) (Nat.le_succ _) h1], T1, hT1, h⟩
    exact key roundsK hT h
  | exit id => intro T t A hT env ret k h; exact ⟨1, .exit id, t, A, rfl, T, hT, h⟩
  | ret => intro T t A hT env ret k h; exact ⟨1, .ret, t, A, rfl, T, hT, h⟩
  | bad w => intro T t A hT env ret k h; cases h

/-! ### Functions -/
theorem argsK_spec : ∀ {l : List Value} {i : Nat} {T : TK} {t : Tm}, TR T t → ∀ {k : TK → Bool}, argsK l i T k = true → ∃ T', TR T' (argsT l i t) ∧ k T' = true := by
  intro l
  induction l with
  | nil => intro i T t hT k h; exact ⟨T, hT, h⟩
  | cons v l ih =>
    intro i T t hT k h
    obtain ⟨T1, hT1, h⟩ := hT.put (i := i) (v := v) (k := fun T' => argsK l (Nat.succ i) T' k) h
    exact ih hT1 h
theorem resultsK_spec : ∀ {l : List (Nat × Option (Nat × Bool))} {T : TK} {t : Tm} {A : H}, TR T t → ∀ {k : List Value → Bool}, resultsK l T A k = true → ∃ vs, resultsA A t l = some vs ∧ k vs = true := by
  intro l
  induction l with
  | nil => intro T t A hT k h; exact ⟨[], rfl, h⟩
  | cons p l ih =>
    intro T t A hT k h
    obtain ⟨s, q⟩ := p
    cases q with
    | none =>
      obtain ⟨vs, h1, h⟩ := ih hT (A := A) (k := fun vs => k (rdT s T :: vs)) h
      exact ⟨_, by simp only [resultsA, h1, Option.map_some, hT s], h⟩
    | some q =>
      obtain ⟨n, agg⟩ := q
      obtain ⟨b, o, h1, h⟩ := ptrK_spec (v := rdT s T) h
      obtain ⟨ro, e, cs, h2, h⟩ := cellsK_spec h
      obtain ⟨l', h3, h⟩ := optA_spec h
      obtain ⟨v, h4, h⟩ := optA_spec h
      obtain ⟨vs, h5, h⟩ := ih hT (A := A) (k := fun vs => k (v :: vs)) h
      exact ⟨_, by simp only [resultsA, hT s, h1, loadA, h2, h3, Option.bind_some, h4, h5, Option.map_some], h⟩
theorem lateK_spec (hn : NatMono code) (hc : CKOk code c) {g : FuncId} {dl : List Value} {A : H} {k : H → Bool} (h : lateK code c g dl A k = true) :
    ∃ fn n xe t' A', code g = some (.body fn) ∧ (Nat.ble dl.length fn.ntmps && fn.results.isEmpty) = true ∧ (∀ i, xe ≠ .exit i) ∧ evalC (evalF code n) n fn.late (argsT dl 0 .nil) A = some (xe, t', A') ∧ k A' = true := by
  unfold lateK at h
  cases hg : code g with
  | none => rw [hg] at h; cases h
  | some xf =>
    rw [hg] at h
    cases xf with
    | dbody => cases h
    | nat g => cases h
    | body fn =>
      simp only at h
      cases hb : and (Nat.ble dl.length fn.ntmps) fn.results.isEmpty with
      | false => rw [hb] at h; cases h
      | true =>
        rw [hb] at h
        obtain ⟨T, hT, h3⟩ := argsK_spec TR.none h
        obtain ⟨m, xe, t', A', h4, T', hT', h5⟩ := kC_spec hn hc fn.late hT h3
        cases xe with
        | exit i => cases h5
        | normal => exact ⟨fn, m, .normal, t', A', rfl, hb, (fun i hi => by cases hi), h4, h5⟩
        | ret => exact ⟨fn, m, .ret, t', A', rfl, hb, (fun i hi => by cases hi), h4, h5⟩
/-- The quick form of a told answer says what it says. -/
def NatsOk (code : FuncId → Option XFun) (nats : FuncId → Option KNat) : Prop := ∀ f gk, nats f = some gk → ∃ g, code f = some (.nat g) ∧ ∀ c, CKOk code c → ∀ args A k, gk c args A k = true → ∃ n v A', g (evalF code n) args A = some (v, A') ∧ k v A' = true
/-- ████ THE QUICK INTERPRETER IS RIGHT. ████ -/
theorem kF_ok (hn : NatMono code) {nats : FuncId → Option KNat} (hk : NatsOk code nats) : ∀ n, CKOk code (kF code nats n) := by
  intro n
  induction n with
  | zero => intro f args A k h; cases h
  | succ n ih =>
    intro f args A k h
    have h' : Option.rec (motive := fun _ => Bool)
      (Option.rec (motive := fun _ => Bool) false (fun xf => XFun.rec (motive := fun _ => Bool) (fun x => runFK x (kF code nats n) args A k) (fun nt rs x fo das y => runDK code nt rs x fo das y (kF code nats n) args A k) (fun _ => false) xf) (code f))
      (fun g => g (kF code nats n) args A k) (nats f) = true := h
    clear h
    cases hg : nats f with
    | some gk =>
      rw [hg] at h'
      obtain ⟨g, h1, h2⟩ := hk f gk hg
      obtain ⟨m, v, A', h3, h4⟩ := h2 _ ih args A k h'
      exact ⟨m + 1, v, A', by rw [evalF, h1]; exact h3, h4⟩
    | none =>
      rw [hg] at h'
      simp only at h'
      cases hf : code f with
      | none => rw [hf] at h'; cases h'
      | some xf =>
        rw [hf] at h'
        cases xf with
        | nat g => cases h'
        | dbody nt rs x fo das y =>
          have h2 : runDK code nt rs x fo das y (kF code nats n) args A k = true := h'
          unfold runDK at h2
          cases hb : Nat.ble args.length nt with
          | false => rw [hb] at h2; cases h2
          | true =>
            rw [hb] at h2
            obtain ⟨T, hT, h3⟩ := argsK_spec TR.none h2
            obtain ⟨m1, xe1, t1, A1, e1, T1, hT1, h4⟩ := kC_spec hn ih x hT h3
            cases xe1 with
            | exit i => cases h4
            | ret => cases h4
            | normal =>
              obtain ⟨q, hq, h4⟩ := optA_spec (o := calleeA (rdK fo T1) (mapR T1 das)) h4
              rw [mapR_eq hT1, hT1.rd] at hq
              obtain ⟨m2, xe2, t2, A2, e2, T2, hT2, h5⟩ := kC_spec hn ih y hT1 h4
              have fin : (∀ i, xe2 ≠ .exit i) → lateK code (kF code nats n) q.1 q.2 A2 (fun A => resultsK rs T2 A fun vs => k (resultV vs) A) = true → ∃ n v A', evalF code n f args A = some (v, A') ∧ k v A' = true := by
                intro hne2 h6
                obtain ⟨fn, m3, xe3, t3, A3, hg, hg1, hne3, e3, h7⟩ := lateK_spec hn ih h6
                obtain ⟨vs, h8, h9⟩ := resultsK_spec hT2 h7
                let N := max m1 (max m2 m3)
                have u1 := evalC_mono (evalF_mono hn (show m1 ≤ N by omega)) (show m1 ≤ N by omega) e1
                have u2 := evalC_mono (evalF_mono hn (show m2 ≤ N by omega)) (show m2 ≤ N by omega) e2
                have u3 := evalC_mono (evalF_mono hn (show m3 ≤ N by omega)) (show m3 ≤ N by omega) e3
                refine ⟨N + 1, _, A3, ?_, h9⟩
                rw [evalF, hf]
                simp only [hb, cond_true, u1, hq, u2]
                cases xe2 with
                | exit i => exact absurd rfl (hne2 i)
                | _ =>
                  simp only [hg, hg1, cond_true, u3]
                  cases xe3 with
                  | exit i => exact absurd rfl (hne3 i)
                  | _ => simp only [h8]
              cases xe2 with
              | exit i => cases h5
              | normal => exact fin (fun i hi => by cases hi) h5
              | ret => exact fin (fun i hi => by cases hi) h5
        | body x =>
          have h2 : Bool.rec (motive := fun _ => Bool) false
            (argsK args 0 TK.none fun T => kC x.body (kF code nats n) (fun _ _ _ => false) (fun T A => resultsK x.results T A fun vs => k (resultV vs) A) (fun T A => resultsK x.results T A fun vs => k (resultV vs) A) T A) (Nat.ble args.length x.ntmps) = true := h'
          cases hb : Nat.ble args.length x.ntmps with
          | false => rw [hb] at h2; cases h2
          | true =>
            rw [hb] at h2
            obtain ⟨T, hT, h3⟩ := argsK_spec TR.none h2
            obtain ⟨m, xe, t', A', h4, T', hT', h5⟩ := kC_spec hn ih x.body hT h3
            cases xe with
            | exit i => cases h5
            | normal =>
              obtain ⟨vs, h6, h7⟩ := resultsK_spec hT' h5
              exact ⟨m + 1, _, A', by rw [evalF, hf]; simp only [hb, cond_true, h4, h6], h7⟩
            | ret =>
              obtain ⟨vs, h6, h7⟩ := resultsK_spec hT' h5
              exact ⟨m + 1, _, A', by rw [evalF, hf]; simp only [hb, cond_true, h4, h6], h7⟩
end
end Go.Ab
namespace Go.Ab
open Go
variable [Kn]
section
variable {code : FuncId → Option XFun} {c : CallK}

theorem plainK_ok {g : Caller → List Value → H → Option (Value × H)} (hg : ∀ c c' args A, g c args A = g c' args A) {args : List Value} {A : H} {k : Value → H → Bool} (h : plainK g c args A k = true) : ∃ n v A', g (evalF code n) args A = some (v, A') ∧ k v A' = true := by
  obtain ⟨v, A', h1, h2⟩ := optK_spec h
  exact ⟨0, v, A', by rw [hg _ noCall]; exact h1, h2⟩
theorem repeatA_any (c c' : Caller) (args : List Value) (A : H) : repeatA c args A = repeatA c' args A := by
  unfold repeatA; split <;> rfl
theorem copyCheckA_any (T : TypeId) (c c' : Caller) (args : List Value) (A : H) : copyCheckA T c args A = copyCheckA T c' args A := by
  unfold copyCheckA; split <;> rfl
theorem stringA_any (B : TypeId) (c c' : Caller) (args : List Value) (A : H) : stringA B c args A = stringA B c' args A := by
  unfold stringA; split <;> rfl

theorem onceA_mono {l o s u : FuncId} {c c' : Caller} (h : Le c c') {args : List Value} {A : H} {r : Value × H} (hr : onceA l o s u c args A = some r) : onceA l o s u c' args A = some r := by
  unfold onceA at hr ⊢
  split at hr
  case h_2 => cases hr
  rename_i id off f
  split at hr
  case h_1 => cases hr
  rename_i v1 A1 h1
  rw [h _ _ _ _ h1]
  simp only
  split at hr
  case h_2 => cases hr
  rename_i A2 h2
  rw [h _ _ _ _ h2]
  simp only
  split at hr
  case h_1 => cases hr
  rename_i g asl hca
  split at hr
  case h_1 => cases hr
  rename_i v3 A3 h3
  rw [h _ _ _ _ h3]
  simp only
  split at hr
  case h_1 => cases hr
  rename_i v4 A4 h4
  rw [h _ _ _ _ h4]
  simp only
  split at hr
  case h_1 => cases hr
  rename_i v5 A5 h5
  rw [h _ _ _ _ h5]
  exact hr
theorem onceK_ok (hn : NatMono code) (hc : CKOk code c) {l o s u : FuncId} {args : List Value} {A : H} {k : Value → H → Bool} (h : onceK l o s u c args A k = true) : ∃ n v A', onceA l o s u (evalF code n) args A = some (v, A') ∧ k v A' = true := by
  unfold onceK at h
  cases hb : Nat.beq args.length 2 with
  | false => rw [hb] at h; cases h
  | true =>
    rw [hb] at h
    have hlen := Nat.eq_of_beq_eq_true hb
    match args, hlen with
    | [p, f], _ =>
      obtain ⟨p', hp, h⟩ := nthK_spec h
      obtain ⟨f', hf, h⟩ := nthK_spec h
      simp only [List.getElem?_cons_zero, List.getElem?_cons_succ, Option.some.injEq] at hp hf
      subst hp; subst hf
      obtain ⟨id, off, h0, h⟩ := ptrK_spec h
      obtain ⟨n1, v1, A1, e1, h⟩ := hc _ _ _ _ h
      obtain ⟨n2, v2, A2, e2, h⟩ := hc _ _ _ _ h
      obtain ⟨b, hb2, h⟩ := boolK_spec h
      cases b with
      | true => cases h
      | false =>
        obtain ⟨q, hq, h⟩ := optA_spec h
        obtain ⟨n3, v3, A3, e3, h⟩ := hc _ _ _ _ h
        obtain ⟨n4, v4, A4, e4, h⟩ := hc _ _ _ _ h
        obtain ⟨n5, v5, A5, e5, h⟩ := hc _ _ _ _ h
        let N := max n1 (max n2 (max n3 (max n4 n5)))
        refine ⟨N, _, A5, ?_, h⟩
        have m1 := evalF_mono hn (show n1 ≤ N by omega) _ _ _ _ e1
        have m2 := evalF_mono hn (show n2 ≤ N by omega) _ _ _ _ e2
        have m3 := evalF_mono hn (show n3 ≤ N by omega) _ _ _ _ e3
        have m4 := evalF_mono hn (show n4 ≤ N by omega) _ _ _ _ e4
        have m5 := evalF_mono hn (show n5 ≤ N by omega) _ _ _ _ e5
        rw [hb2] at m2
        rw [h0]
        simp only [ptr1] at m1 m2 m3 m4 m5
        simp only [onceA, m1, m2, hq, m3, m4, m5]
end
end Go.Ab
