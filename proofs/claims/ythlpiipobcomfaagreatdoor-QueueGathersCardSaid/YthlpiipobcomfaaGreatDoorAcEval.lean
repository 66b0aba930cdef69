/- Numbers of which single bits are unknown: what the interpreter reckons with them. -/
/- An interpreter of the program's code over an abstract heap: strings, numbers, blocks of cells; no tape, no capacities that the tape chooses, no addresses of the world's. -/
import GoSem.Dispatch
set_option linter.all false
set_option linter.unusedSectionVars false
set_option linter.unusedVariables false
set_option linter.unusedSimpArgs false
namespace Go.Ab
open Go

/-- What may be told of an operation on values that are not known. -/
inductive TKey where
  | bin (op : BinOp) | len | sub (lo hi : Bool) | toInt (k : IntKind) | idx | mm (mx : Bool)
/-- Who is asked whether all pairs of bits of a list are alike. (A bit: 0, 1, or 2 + i: the i-th unknown one.) Told: what an operation comes to. -/
class Kn where
  ask : List (Nat × Nat) → Option Bool
  told : TKey → List Value → Option Value

def pkB : List Nat → Nat
  | [] => 0
  | c :: l => Nat.add c (Nat.mul 65536 (pkB l))
def unB : Nat → Nat → List Nat
  | 0, _ => []
  | k + 1, n => Nat.mod n 65536 :: unB k (Nat.div n 65536)
def kIdx : IntKind → Nat
  | .i8 => 0 | .i16 => 1 | .i32 => 2 | .i64 => 3 | .u8 => 4 | .u16 => 5 | .u32 => 6 | .u64 => 7
def kOf (n : Nat) : IntKind :=
  bif Nat.beq n 0 then .i8 else bif Nat.beq n 1 then .i16 else bif Nat.beq n 2 then .i32 else bif Nat.beq n 3 then .i64 else
  bif Nat.beq n 4 then .u8 else bif Nat.beq n 5 then .u16 else bif Nat.beq n 6 then .u32 else .u64
def limN : IntKind → Nat
  | .i8 => 128 | .i16 => 32768 | .i32 => 2147483648 | .i64 => 9223372036854775808 | .u8 => 256 | .u16 => 65536 | .u32 => 4294967296 | .u64 => 18446744073709551616
def bitsN : IntKind → Nat
  | .i8 | .u8 => 8 | .i16 | .u16 => 16 | .i32 | .u32 => 32 | .i64 | .u64 => 64
/-- A number: mul times what the bits say, and add. -/
structure Fm where
  k : IntKind
  mul : Nat
  add : Nat
  l : List Nat
def big64 : Nat := 18446744073709551616
def symK (c : Nat) : IntKind := kOf (Nat.mod c 8)
def symMul (c : Nat) : Nat := Nat.mod (Nat.div c 8) big64
def symAdd (c : Nat) : Nat := Nat.div (Nat.div c 8) big64
def symL (c n : Nat) : List Nat := unB (bitsN (symK c)) n
def symC (k : IntKind) (mul add : Nat) : Nat := Nat.add (kIdx k) (Nat.mul 8 (Nat.add mul (Nat.mul big64 add)))
def fmOf : Value → Option Fm
  | .int k (.ofNat a) => some ⟨k, 0, a, []⟩
  | .complex .f32 c n => some ⟨symK c, symMul c, symAdd c, symL c n⟩
  | _ => none
def constB : Nat → Nat → List Nat
  | 0, _ => []
  | k + 1, a => Nat.mod a 2 :: constB k (Nat.div a 2)
def knownL (l : List Nat) : Bool := l.all (Nat.blt · 2)
/-- The most that the bits say. -/
def maxL : List Nat → Nat
  | [] => 0
  | c :: l => Nat.add (bif Nat.beq c 0 then 0 else 1) (Nat.mul 2 (maxL l))
def padB (b : Nat) (l : List Nat) : List Nat := (l ++ List.replicate b 0).take b
def mkV (f : Fm) : Option Value :=
  let m := Nat.add (Nat.mul f.mul (maxL f.l)) f.add
  bif Nat.blt m (limN f.k) then
    bif Nat.beq f.mul 0 || knownL f.l then some (.int f.k (.ofNat m))
    else bif Nat.blt (maxL f.l) (Nat.pow 2 (bitsN f.k)) && (padB (bitsN f.k) f.l).all (Nat.blt · 65536) && Nat.blt f.mul big64 then
      some (.complex .f32 (symC f.k f.mul f.add) (pkB (padB (bitsN f.k) f.l)))
    else none
  else none
def plain (f : Fm) : Bool := Nat.beq f.mul 1 && Nat.beq f.add 0
/-- The bits of a known number, or of one that is just its bits. -/
def bitsOf (f : Fm) : Option (List Nat) := bif Nat.beq f.mul 0 then (bif Nat.blt f.add (Nat.pow 2 (bitsN f.k)) then some (constB (bitsN f.k) f.add) else none) else bif plain f then some (padB (bitsN f.k) f.l) else none
def zipB (g : Nat → Nat → Option Nat) : List Nat → List Nat → Option (List Nat)
  | [], [] => some []
  | a :: l, b :: m => (g a b).bind fun c => (zipB g l m).map (c :: ·)
  | _, _ => none
def andB (a b : Nat) : Option Nat := bif Nat.beq a 0 || Nat.beq b 0 then some 0 else bif Nat.beq a 1 then some b else bif Nat.beq b 1 || Nat.beq a b then some a else none
def orB (a b : Nat) : Option Nat := bif Nat.beq a 1 || Nat.beq b 1 then some 1 else bif Nat.beq a 0 then some b else bif Nat.beq b 0 || Nat.beq a b then some a else none
def xorB (a b : Nat) : Option Nat := bif Nat.beq a 0 then some b else bif Nat.beq b 0 then some a else bif Nat.beq a b then some 0 else none
def andNotB (a b : Nat) : Option Nat := bif Nat.beq a 0 || Nat.beq b 1 || Nat.beq a b then some 0 else bif Nat.beq b 0 then some a else none
def addB (a b : Nat) : Option Nat := bif Nat.beq a 0 then some b else bif Nat.beq b 0 then some a else none
def bitwise (g : Nat → Nat → Option Nat) (f h : Fm) : Option Value :=
  bif Nat.beq (kIdx f.k) (kIdx h.k) then (bitsOf f).bind fun a => (bitsOf h).bind fun b => (zipB g a b).bind fun l => mkV ⟨f.k, 1, 0, l⟩ else none
def pow2 (c : Nat) : Option Nat := bif Nat.beq (Nat.pow 2 (Nat.log2 c)) c then some (Nat.log2 c) else none
/-- Pairs that say: the bits are alike. -/
def pairsD : List Nat → List Nat → List (Nat × Nat)
  | [], m => m.map fun b => (0, b)
  | a :: l, m => match m with
    | [] => (a, 0) :: pairsD l []
    | b :: m => (a, b) :: pairsD l m
def dropEq (D : List (Nat × Nat)) : List (Nat × Nat) := D.filter fun p => !Nat.beq p.1 p.2
def clash (D : List (Nat × Nat)) : Bool := D.any fun p => Nat.blt p.1 2 && Nat.blt p.2 2 && !Nat.beq p.1 p.2
section
variable [Kn]
/-- Are all pairs alike? -/
def alikeD (D : List (Nat × Nat)) : Option Bool := bif clash D then some false else match dropEq D with
  | [] => some true
  | p :: r => Kn.ask (p :: r)
/-- Is what bits say (the highest one first) at most what known ones say? -/
def leqR : Nat → List (Nat × Nat) → Option Bool
  | 0, _ => none
  | n + 1, l => match l with
    | [] => some true
    | (_, c) :: _ => bif l.all (fun p => Nat.beq p.2 1) then some true else
      let r := l.takeWhile fun p => Nat.beq p.2 c
      match alikeD r with
      | some true => leqR n (l.dropWhile fun p => Nat.beq p.2 c)
      | some false => some (Nat.beq c 1)
      | none => none
def leqC (l : List Nat) (c : Nat) : Option Bool := bif Nat.ble (maxL l) c then some true else leqR (l.length + 1) ((List.zip l (constB l.length c)).reverse)
/-- A number that is not known, against a known one. -/
def leqF (f : Fm) (c : Nat) : Option Bool := bif Nat.blt c f.add then some false else bif Nat.beq f.mul 0 then some true else leqC f.l (Nat.div (Nat.sub c f.add) f.mul)
def ltF (f : Fm) (c : Nat) : Option Bool := bif Nat.beq c 0 then some false else leqF f (Nat.sub c 1)
def eqF (f h : Fm) : Option Bool :=
  bif Nat.beq h.mul 0 then
    bif Nat.beq f.mul 0 then some (Nat.beq f.add h.add) else
    bif Nat.blt h.add f.add then some false else bif Nat.beq (Nat.mod (Nat.sub h.add f.add) f.mul) 0 then
      let q := Nat.div (Nat.sub h.add f.add) f.mul
      bif Nat.blt (maxL f.l) q then some false else alikeD (pairsD f.l (constB f.l.length q))
    else some false
  else bif Nat.beq f.mul h.mul && Nat.beq f.add h.add then alikeD (pairsD f.l h.l) else none
def cmpF (op : BinOp) (f h : Fm) : Option Bool :=
  bif Nat.beq (kIdx f.k) (kIdx h.k) then match op with
    | .eql => bif Nat.beq f.mul 0 then eqF h f else eqF f h
    | .neq => (bif Nat.beq f.mul 0 then eqF h f else eqF f h).map (!·)
    | .lss => bif Nat.beq h.mul 0 then ltF f h.add else bif Nat.beq f.mul 0 then (leqF h f.add).map (!·) else none
    | .leq => bif Nat.beq h.mul 0 then leqF f h.add else bif Nat.beq f.mul 0 then (ltF h f.add).map (!·) else none
    | .gtr => bif Nat.beq h.mul 0 then (leqF f h.add).map (!·) else bif Nat.beq f.mul 0 then ltF h f.add else none
    | .geq => bif Nat.beq h.mul 0 then (ltF f h.add).map (!·) else bif Nat.beq f.mul 0 then leqF h f.add else none
    | _ => none
  else none
def symF (op : BinOp) (f h : Fm) : Option Value := match op with
  | .and => bitwise andB f h
  | .or => match bitwise orB f h with
    | some v => some v
    | none => bif Nat.beq (kIdx f.k) (kIdx h.k) && Nat.blt 3 (kIdx f.k) && plain f && plain h then (match alikeD (pairsD h.l []) with
      | some true => mkV f
      | some false => some (.float .f64 (kIdx f.k))
      | none => none) else none
  | .xor => bitwise xorB f h
  | .andNot => bitwise andNotB f h
  | .shl => bif Nat.beq h.mul 0 && plain f && Nat.blt 3 (kIdx f.k) && Nat.ble h.add (bitsN f.k) then mkV ⟨f.k, 1, 0, padB (bitsN f.k) (List.replicate h.add 0 ++ f.l)⟩ else none
  | .shr => bif Nat.beq h.mul 0 && plain f && Nat.ble h.add (bitsN f.k) then mkV ⟨f.k, 1, 0, f.l.drop h.add⟩ else none
  | .add => match bitwise addB f h with
    | some v => some v
    | none => bif Nat.beq (kIdx f.k) (kIdx h.k) then
        bif Nat.beq h.mul 0 then mkV ⟨f.k, f.mul, Nat.add f.add h.add, f.l⟩ else bif Nat.beq f.mul 0 then mkV ⟨f.k, h.mul, Nat.add h.add f.add, h.l⟩ else none
      else none
  | .sub => bif Nat.beq (kIdx f.k) (kIdx h.k) && Nat.beq h.mul 0 && Nat.ble h.add f.add then mkV ⟨f.k, f.mul, Nat.sub f.add h.add, f.l⟩ else none
  | .mul => bif Nat.beq (kIdx f.k) (kIdx h.k) then
      bif Nat.beq h.mul 0 then mulC f h.add else bif Nat.beq f.mul 0 then mulC h f.add else none
    else none
  | .quo => bif Nat.beq (kIdx f.k) (kIdx h.k) && Nat.beq h.mul 0 && plain f then (pow2 h.add).bind fun s => mkV ⟨f.k, 1, 0, f.l.drop s⟩ else none
  | .rem => bif Nat.beq (kIdx f.k) (kIdx h.k) && Nat.beq h.mul 0 && plain f then (pow2 h.add).bind fun s => mkV ⟨f.k, 1, 0, f.l.take s⟩ else none
  | op => (cmpF op f h).map .bool
where mulC (f : Fm) (c : Nat) : Option Value :=
  bif plain f then match pow2 c with
    | some s => mkV ⟨f.k, 1, 0, List.replicate s 0 ++ f.l⟩
    | none => mkV ⟨f.k, Nat.mul f.mul c, Nat.mul f.add c, f.l⟩
  else mkV ⟨f.k, Nat.mul f.mul c, Nat.mul f.add c, f.l⟩
/-- A number that is not 0, and what is known of another one. -/
def posA (op : BinOp) (x y : Value) : Option Value := match op, x, y with
  | .or, .float .f64 i, .float .f64 j => bif Nat.beq i j && Nat.blt 3 i && Nat.blt i 8 then some (.float .f64 i) else none
  | .or, .float .f64 i, y => (fmOf y).bind fun h => bif Nat.beq i (kIdx h.k) && Nat.blt 3 i && (plain h || Nat.beq h.mul 0 && Nat.blt h.add (limN h.k)) then some (.float .f64 i) else none
  | .eql, .float .f64 i, .int k n => bif Nat.beq i (kIdx k) && n == 0 then some (.bool false) else none
  | .neq, .float .f64 i, .int k n => bif Nat.beq i (kIdx k) && n == 0 then some (.bool true) else none
  | _, _, _ => none
def symA (op : BinOp) (x y : Value) : Option Value := (fmOf x).bind fun f => (fmOf y).bind fun h => symF op f h
end
/-- As another kind. -/
def symTo (k : IntKind) (f : Fm) : Option Value :=
  bif Nat.blt 3 (kIdx k) && plain f then mkV ⟨k, 1, 0, padB (bitsN k) f.l⟩ else mkV { f with k := k }
end Go.Ab
namespace Go.Ab
open Go

/-- A tree that maps numbers to values. -/
inductive Tr (α : Type) where
  | nil
  | node (v : Option α) (l r : Tr α)
  deriving Inhabited
namespace Tr
variable {α : Type}
def get : Tr α → Nat → Option α
  | .nil, _ => none
  | .node v l r, k => bif Nat.beq k 0 then v else bif Nat.beq (Nat.mod k 2) 1 then l.get (Nat.div k 2) else r.get (Nat.sub (Nat.div k 2) 1)
/-- One value put there; `d`: more than the place. -/
def putD (x : Option α) : Nat → Tr α → Nat → Tr α
  | 0, t, _ => t
  | d + 1, .nil, k => bif Nat.beq k 0 then .node x .nil .nil else bif Nat.beq (Nat.mod k 2) 1 then .node none (putD x d .nil (Nat.div k 2)) .nil else .node none .nil (putD x d .nil (Nat.sub (Nat.div k 2) 1))
  | d + 1, .node v l r, k => bif Nat.beq k 0 then .node x l r else bif Nat.beq (Nat.mod k 2) 1 then .node v (putD x d l (Nat.div k 2)) r else .node v l (putD x d r (Nat.sub (Nat.div k 2) 1))
def put (t : Tr α) (k : Nat) (x : Option α) : Tr α := putD x (Nat.succ k) t k
end Tr

/-- A block: cells (ro: they may only be read), a map, an iterator. -/
inductive AObj where
  | cells (ro : Bool) (elem : TypeId) (c : List Value)
  | map (es : List MapEntry) (clock : Nat)
  | iter (s : ByteArray) (pos : Nat)
  deriving Inhabited

structure H where
  t : Tr AObj
  next : Nat
  deriving Inhabited
def H.get (A : H) (i : Nat) : Option AObj := A.t.get i
def H.set (A : H) (i : Nat) (o : AObj) : H := { A with t := A.t.put i (some o) }
def H.drop (A : H) (i : Nat) : H := { A with t := A.t.put i none }
def H.push (A : H) (o : AObj) : H := { t := A.t.put A.next (some o), next := A.next + 1 }

/-- What a function without a body does. -/
inductive XExt where
  | add (k : IntKind)
  | load (k : IntKind)
  | store
  | cas (k : IntKind)
  | mark0
  | mark1
  deriving Inhabited
/-- Of what kind a key is: one scalar, or a struct of scalars (each with its place). -/
inductive KKind where
  | one (d : TypeDesc)
  | many (l : List (Nat × TypeDesc))
  deriving Inhabited
/-- Operations with all that the types say worked out. -/
inductive XOp where
  | move (x : Operand)
  | pick (c a b : Operand)
  | alloc (elem : TypeId) (zero : List Value)
  | box (elem : TypeId) (x : Operand)
  | build (zero : List Value) (parts : List (Nat × Nat × Operand))
  | buildSlice (elem : TypeId) (len : Nat) (zero : List Value) (parts : List (Nat × Nat × Operand))
  | load (n : Nat) (agg : Bool) (a : Operand)
  | store (n : Nat) (a x : Operand)
  | nilCheck (x : Operand)
  | bin (op : BinOp) (t : TypeDesc) (x y : Operand)
  | un (op : UnOp) (x : Operand)
  | toInt (k : IntKind) (x : Operand)
  | toUnsafe (x : Operand)
  | assert (own : Option TypeId) (z : Value) (x : Operand)
  | isNil (neg : Bool) (x y : Operand)
  | eqS (neg : Bool) (l : List (Nat × TypeDesc)) (x y : Operand)
  | same (x : Operand)
  | toBytes (elem : TypeId) (x : Operand)
  | ofBytes (x : Operand)
  | fieldAddr (off : Nat) (x : Operand)
  | indexAddr (arr : Option Nat) (size : Nat) (x i : Operand)
  | field (off size : Nat) (agg : Bool) (x : Operand)
  | index (arr : Option (Nat × Nat × Bool)) (x i : Operand)
  | sliceStr (x : Operand) (lo hi : Option Operand)
  | slice (elem : TypeId) (size : Nat) (arr : Option Nat) (x : Operand) (lo hi mx : Option Operand)
  | extract (x : Operand) (i : Nat)
  | makeIface (t : TypeId) (x : Operand)
  | makeFunc (fn : Fn) (first captured : List Operand)
  | makeMap
  | mapPut (kind : KKind) (m k x : Operand)
  | lookup (kind : KKind) (zero : Value) (m k : Operand) (ok : Bool)
  | mapDel (kind : KKind) (m k : Operand)
  | makeSlice (elem : TypeId) (bytes size : Nat) (zero : List Value) (l c : Operand)
  | rangeStr (x : Operand)
  | nextStr (x : Operand)
  | call (f : FuncId) (args : List Operand)
  | callV (f : Operand) (args : List Operand)
  | callI (find : TypeId → Option FuncId) (recv : Operand) (args : List Operand)
  | len (arr : Option Nat) (x : Operand)
  | lenStr (x : Operand)
  | append (elem : TypeId) (size bytes : Nat) (s x : Operand)
  | copy (size : Nat) (d x : Operand)
  | clear (zero : List Value) (x : Operand)
  | minmax (mx : Bool) (xs : List Operand)
  | ext (kd : XExt) (xs : List Operand)
  | bad (why : String)
  deriving Inhabited

structure XOper where
  dst : Option Tmp
  guard : Option (Tmp × Bool)
  op : XOp
  deriving Inhabited

inductive XCode where
  | skip
  | ops (l : List XOper)
  | draw (l : List (XOper × List XOper))
  | seq (a b : XCode)
  | cond (c : Operand) (a b : XCode)
  | block (id : Nat) (b : XCode)
  | loop (b : XCode)
  | exit (id : Nat)
  | ret
  | bad (why : String)
  deriving Inhabited

/-- A function; late: its code as a deferred call at a normal end goes through it. -/
structure XFunc where
  ntmps : Nat
  results : List (Nat × Option (Nat × Bool))
  body : XCode
  late : XCode
  deriving Inhabited

/-! ### The values' operations -/
def bytesOf (s : ByteArray) : List UInt8 := s.data.toList
def ofBytes (l : List UInt8) : ByteArray := ⟨⟨l⟩⟩
def byteV (b : UInt8) : Value := .int .u8 (Int.ofNat b.toNat)

def getN : List Value → Nat → Option Value
  | [], _ => none
  | x :: l, n => bif Nat.beq n 0 then some x else getN l (Nat.sub n 1)
def setN : List Value → Nat → Value → Option (List Value)
  | [], _, _ => none
  | x :: l, n, v => bif Nat.beq n 0 then some (v :: l) else (setN l (Nat.sub n 1) v).map (x :: ·)
/-- n cells from one on. -/
def cut (l : List Value) (off n : Nat) : Option (List Value) :=
  let r := (l.drop off).take n
  bif Nat.beq r.length n then some r else none
/-- cells written over others, from one on. -/
def over (l : List Value) (off : Nat) (vs : List Value) : Option (List Value) :=
  bif Nat.ble (off + vs.length) l.length then some (l.take off ++ vs ++ l.drop (off + vs.length)) else none

def cellsL : Value → List Value
  | .agg cs => cs.toList
  | v => [v]
def aggL (l : List Value) : Value := .agg ⟨l⟩

/-- Cells as one value. -/
def oneV (agg : Bool) (l : List Value) : Option Value := bif agg then some (aggL l) else match l with
  | [v] => some v
  | _ => none
def boolV : Value → Option Bool
  | .bool b => some b
  | _ => none
def intV : Value → Option Int
  | .int _ n => some n
  | _ => none
def strV : Value → Option ByteArray
  | .string s => some s
  | _ => none

def oneCell : Value → Bool
  | .agg _ | .tuple _ => false
  | _ => true
def loadA (A : H) (a : Addr) (n : Nat) : Option (List Value) :=
  match A.get a.block with
  | some (.cells _ _ c) => cut c a.off n
  | _ => none
def storeA (A : H) (a : Addr) (vs : List Value) : Option H :=
  match A.get a.block with
  | some (.cells false e c) => bif vs.all oneCell then (over c a.off vs).map fun c' => A.set a.block (.cells false e c') else none
  | _ => none

/-- The number at an address. -/
def intAt (A : H) (p : Addr) : Option (IntKind × Int) := match loadA A p 1 with
  | some [.int k n] => some (k, n)
  | _ => none
def extA : XExt → List Value → H → Option (Value × H)
  | .add k, [.pointer (some p), .int j y], A => match intAt A p with
    | some (i, n) => if i = k ∧ j = k then (storeA A p [.int k (k.wrap (n + y))]).map fun A' => (.int k (k.wrap (n + y)), A') else none
    | none => none
  | .load k, [.pointer (some p)], A => match intAt A p with
    | some (i, n) => if i = k then some (.int k n, A) else none
    | none => none
  | .store, [.pointer (some p), .int j y], A => match intAt A p with
    | some _ => (storeA A p [.int j y]).map fun A' => (.tuple #[], A')
    | none => none
  | .cas k, [.pointer (some p), .int j o, .int l y], A => match intAt A p with
    | some (i, n) => if i = k ∧ j = k ∧ l = k ∧ n = o then (storeA A p [.int k y]).map fun A' => (.bool true, A') else none
    | none => none
  | .mark0, [], A => some (.tuple #[], A)
  | .mark1, [.pointer (some _)], A => some (.tuple #[], A)
  | _, _, _ => none
def extKind (n : String) : Option XExt :=
  if n = "sync/atomic.AddInt64" then some (.add .i64) else if n = "sync/atomic.AddInt32" then some (.add .i32)
  else if n = "sync/atomic.LoadInt64" then some (.load .i64) else if n = "sync/atomic.LoadUint32" then some (.load .u32) else if n = "sync/atomic.LoadInt32" then some (.load .i32)
  else if n = "sync/atomic.StoreInt64" ∨ n = "sync/atomic.StoreUint32" ∨ n = "sync/atomic.StoreInt32" then some .store
  else if n = "sync/atomic.CompareAndSwapInt32" then some (.cas .i32) else if n = "sync/atomic.CompareAndSwapUint32" then some (.cas .u32)
  else if n = "internal/race.Disable" ∨ n = "internal/race.Enable" then some .mark0
  else if n = "internal/race.Acquire" ∨ n = "internal/race.Release" ∨ n = "internal/race.ReleaseMerge" then some .mark1
  else none

def bytesV : List Value → Option (List UInt8)
  | [] => some []
  | .int .u8 n :: l => (bytesV l).map fun r => UInt8.ofNat n.toNat :: r
  | _ => none
/-! ### Texts with unknown bytes, and unknown numbers -/
/-- A byte's number: a known one, or an unknown one's. -/
def codeC : Value → Option Nat
  | .int .u8 n => if 0 ≤ n ∧ n < 256 then some n.toNat else none
  | .chan (some i) => bif Nat.blt i 4096 then some (Nat.add 256 i) else none
  | .complex .f32 c n => bif Nat.beq c 12 && Nat.blt n 340282366920938463463374607431768211456 then some (Nat.add 65536 (Nat.mul 65536 n)) else none
  | _ => none
def charV (c : Nat) : Value := bif Nat.blt c 256 then .int .u8 (Int.ofNat c) else bif Nat.blt c 65536 then .chan (some (Nat.sub c 256)) else .complex .f32 12 (Nat.sub (Nat.div c 65536) 1)
/-- 65536 to the power of 10: a byte's digit is below it. -/
def baseC : Nat := 1461501637330902918203684832716283019655932542976
def encR : List Value → Option Nat
  | [] => some 0
  | v :: l => (codeC v).bind fun c => (encR l).map fun n => Nat.add c (Nat.mul baseC n)
def decR : Nat → Nat → List Value
  | 0, _ => []
  | L + 1, n => charV (Nat.mod n baseC) :: decR L (Nat.div n baseC)
def charAt (n i : Nat) : Value := charV (Nat.mod (Nat.div n (Nat.pow baseC i)) baseC)
/-- A text's bytes, each a value. -/
def charsOf : Value → Option (List Value)
  | .string s => some ((bytesOf s).map byteV)
  | .complex .f64 L n => some (decR L n)
  | _ => none
def mkStr (l : List Value) : Option Value := match bytesV l with
  | some bs => some (.string (ofBytes bs))
  | none => (encR l).map fun n => .complex .f64 l.length n
/-- Unknown things that are known to differ. -/
def neqTok (i j : Nat) : Bool := Nat.beq (Nat.mod i 16) (Nat.mod j 16) && ((Nat.blt i 16 && Nat.beq (Nat.div j 16) 1) || (Nat.blt j 16 && Nat.beq (Nat.div i 16) 1))
def eqC1 : Value → Value → Option Bool
  | .int .u8 a, .int .u8 b => some (a == b)
  | .chan (some i), .chan (some j) => bif Nat.beq i j then some true else bif neqTok i j then some false else none
  | _, _ => none
def eqCL : List Value → List Value → Option Bool
  | [], [] => some true
  | a :: l, b :: m => match eqC1 a b with
    | some true => eqCL l m
    | r => r
  | _, _ => none
/-- A byte's bits. -/
def bitsC : Value → Option (List Nat)
  | .int .u8 (.ofNat a) => bif Nat.blt a 256 then some (constB 8 a) else none
  | .complex .f32 c n => bif Nat.beq c 12 then some (unB 8 n) else none
  | _ => none
def charsD : List Value → List Value → Option (List (Nat × Nat))
  | [], [] => some []
  | a :: l, b :: m => match eqC1 a b with
    | some true => charsD l m
    | _ => (bitsC a).bind fun x => (bitsC b).bind fun y => (charsD l m).map (pairsD x y ++ ·)
  | _, _ => none
/-- The bits of an unknown text's length. -/
def isText (i : Nat) : Bool := Nat.beq (Nat.div i 100) 70
def lenBits (i : Nat) : List Nat := (List.range 63).map fun j => Nat.add 40002 (Nat.add (Nat.mul 64 (Nat.mod i 100)) j)
def lenText (i : Nat) : Option Value := bif isText i then mkV ⟨.i64, 1, 0, lenBits i⟩ else none
section
variable [Kn]
def eqC (a b : List Value) : Option Bool := bif Nat.beq a.length b.length then (match eqCL a b with
  | some t => some t
  | none => (charsD a b).bind alikeD) else some false
def ropeA (op : BinOp) (x y : Value) : Option Value := (charsOf x).bind fun a => (charsOf y).bind fun b => match op with
  | .add => bif Nat.ble (a.length + b.length) 9223372036854775807 then mkStr (a ++ b) else none
  | .eql => (eqC a b).map .bool
  | .neq => (eqC a b).map fun t => .bool (!t)
  | _ => none
/-- The two unknown numbers of 64 bits: neither is 0, and they differ. -/
def isKey (i : Nat) : Bool := Nat.beq i 5000 || Nat.beq i 5001
def eqTok (i : Nat) : Value → Option Bool
  | .chan (some j) => bif isKey i && isKey j then some (Nat.beq i j) else bif Nat.blt i 4096 && Nat.blt j 4096 then eqC1 (.chan (some i)) (.chan (some j)) else none
  | .int .u64 n => bif isKey i && n == 0 then some false else none
  | _ => none
/-- An unknown text against itself, or against the empty one. -/
def textEq (i : Nat) : Value → Option Bool
  | .chan (some j) => bif Nat.beq i j then some true else none
  | .string s => bif (bytesOf s).isEmpty then alikeD (pairsD (lenBits i) []) else none
  | _ => none
def textA (op : BinOp) (i : Nat) (y : Value) : Option Value := match op with
  | .eql => (textEq i y).map .bool
  | .neq => (textEq i y).map fun t => .bool (!t)
  | _ => none
def tokA (op : BinOp) (i : Nat) (y : Value) : Option Value := bif isText i then textA op i y else match op with
  | .eql => (eqTok i y).map .bool
  | .neq => (eqTok i y).map fun t => .bool (!t)
  | .add => match y with
    | .int .u8 m => bif Nat.blt i 4096 && Nat.blt (Nat.add (Nat.mod i 16) m.toNat) 16 && decide (0 ≤ m) then some (.chan (some (Nat.add i m.toNat))) else none
    | _ => none
  | _ => none
def fillA (cells : List Value) : List (Nat × Nat × Value) → Option (List Value)
  | [] => some cells
  | (off, size, v) :: rest =>
    let vs := cellsL v
    bif Nat.beq vs.length size then (over cells off vs).bind (fillA · rest) else none

def bitsA (op : BinOp) (k : IntKind) (x y : Int) : Option Value :=
  let a := BitVec.ofInt k.bits x
  let b := BitVec.ofInt k.bits y
  match op with
  | .and => some (.int k (k.wrap (a &&& b).toNat))
  | .or => some (.int k (k.wrap (a ||| b).toNat))
  | .xor => some (.int k (k.wrap (a ^^^ b).toNat))
  | .andNot => some (.int k (k.wrap (a &&& ~~~b).toNat))
  | _ => none

def cmpA (op : BinOp) (x y : Int) : Option Value :=
  match op with
  | .eql => some (.bool (x == y))
  | .neq => some (.bool (x != y))
  | .lss => some (.bool (x < y))
  | .leq => some (.bool (x ≤ y))
  | .gtr => some (.bool (x > y))
  | .geq => some (.bool (x ≥ y))
  | _ => none

def intA (op : BinOp) (k : IntKind) (x y : Int) : Option Value :=
  match op with
  | .add => some (.int k (k.wrap (x + y)))
  | .sub => some (.int k (k.wrap (x - y)))
  | .mul => some (.int k (k.wrap (x * y)))
  | .quo => if y = 0 then none else some (.int k (k.wrap (x.tdiv y)))
  | .rem => if y = 0 then none else some (.int k (x.tmod y))
  | .and | .or | .xor | .andNot => bitsA op k x y
  | _ => cmpA op x y

def shiftA (left : Bool) (k : IntKind) (x : Int) (y : Int) : Option Value :=
  if y < 0 then none else
  let n := min y.toNat k.bits
  if left then some (.int k (k.wrap (x * 2 ^ n))) else some (.int k (x.fdiv (2 ^ n)))

def strA (op : BinOp) (x y : ByteArray) : Option Value :=
  let a := bytesOf x
  let b := bytesOf y
  match op with
  | .add => bif Nat.ble (a.length + b.length) 9223372036854775807 then some (.string (ofBytes (a ++ b))) else none
  | .eql => some (.bool (a == b))
  | .neq => some (.bool (!(a == b)))
  | .lss => some (.bool (Op.bytesLess a b))
  | .leq => some (.bool (Op.bytesLess a b || a == b))
  | .gtr => some (.bool (!(Op.bytesLess a b || a == b)))
  | .geq => some (.bool (!Op.bytesLess a b))
  | _ => none

/-- Equality of values that have no parts, of a type. -/
def eqA : TypeDesc → Value → Value → Option Bool
  | .bool, .bool a, .bool b => some (a == b)
  | .pointer _, .pointer none, .pointer b => some b.isNone
  | .pointer _, .pointer (some _), .pointer none => some false
  | .slice _, .slice none _ _, .slice b _ _ => some b.isNone
  | .slice _, .slice (some _) _ _, .slice none _ _ => some false
  | .func _ _ _, .nilFunc, .nilFunc => some true
  | .func _ _ _, .nilFunc, .func _ _ _ => some false
  | .func _ _ _, .func _ _ _, .nilFunc => some false
  | .map _ _, .map none, .map b => some b.isNone
  | .map _ _, .map (some _), .map none => some false
  | _, _, _ => none

def cplxA (k : FloatKind) (op : BinOp) (x y : Value) : Option Value := match k with
  | .f32 => symA op x y
  | .f64 => ropeA op x y
def binA (op : BinOp) (d : TypeDesc) (x y : Value) : Option Value :=
  match op, x, y with
  | .shl, .int k a, .int _ b => shiftA true k a b
  | .shr, .int k a, .int _ b => shiftA false k a b
  | _, .int k a, .int k' b => if k = k' then intA op k a b else none
  | _, .string a, .string b => strA op a b
  | op, .float k i, y => posA op (.float k i) y
  | op, .complex k l n, y => cplxA k op (.complex k l n) y
  | op, x, .complex k l n => cplxA k op x (.complex k l n)
  | op, .chan (some i), y => tokA op i y
  | op, x, .chan (some i) => tokA op i x
  | .eql, x, y => (eqA d x y).map .bool
  | .neq, x, y => (eqA d x y).map fun b => .bool (!b)
  | _, _, _ => none

def unA (op : UnOp) (x : Value) : Option Value :=
  match op, x with
  | .neg, .int k n => some (.int k (k.wrap (0 - n)))
  | .xor, .int k n => bitsA .xor k (if k.signed then -1 else k.max) n
  | .not, .bool b => some (.bool !b)
  | _, _ => none

def boundA (x : Value) (y : Nat) : Option Nat :=
  match x with
  | .int _ i => if 0 ≤ i ∧ i ≤ y then some i.toNat else none
  | _ => none

def scalarKey : TypeDesc → Bool
  | .int _ | .string | .bool => true
  | _ => false
def keyEq : TypeDesc → Value → Value → Option Bool
  | .int _, .int k a, .int k' b => if k = k' then some (a == b) else none
  | .string, .string a, .string b => some (bytesOf a == bytesOf b)
  | .string, .chan (some i), .chan (some j) => bif isText i && Nat.beq i j then some true else none
  | .bool, .bool a, .bool b => some (a == b)
  | _, _, _ => none
def keysEq : List (Nat × TypeDesc) → List Value → List Value → Option Bool
  | [], _, _ => some true
  | p :: l, xs, ys => match getN xs p.1, getN ys p.1 with
    | some x, some y => match keyEq p.2 x y with
      | some true => keysEq l xs ys
      | r => r
    | _, _ => none
def kindEq : KKind → Value → Value → Option Bool
  | .one d, a, b => keyEq d a b
  | .many l, .agg xs, .agg ys => keysEq l xs.toList ys.toList
  | _, _, _ => none
def kindOk : KKind → Value → Bool
  | .one _, _ => true
  | .many l, .agg xs => l.all fun p => Nat.blt p.1 xs.size
  | .many _, _ => false
def findA (d : KKind) (k : Value) : List MapEntry → Nat → Option (Option (Nat × Value))
  | [], _ => some none
  | e :: es, i => match kindEq d k e.key with
    | some true => some (some (i, e.val))
    | some false => findA d k es (i + 1)
    | none => none
def findK (d : KKind) (k : Value) (es : List MapEntry) : Option (Option (Nat × Value)) := bif kindOk d k then findA d k es 0 else none
def fieldKinds (P : Program) : List Field → Option (List (Nat × TypeDesc))
  | [] => some []
  | f :: fs => bif f.name == "_" then none else (P.underlying f.type).bind fun d => bif scalarKey d then (fieldKinds P fs).map ((f.offset, d) :: ·) else none
def keyKind (P : Program) (t : TypeId) : Option KKind := match P.underlying t with
  | some (.struct fs) => bif P.stoodInHeld t then none else (fieldKinds P fs.toList).map .many
  | some d => bif scalarKey d then some (.one d) else none
  | none => none
/-- Are two values without composite parts alike? -/
def same1 : Value → Value → Bool
  | .bool a, .bool b => a == b
  | .int k a, .int k' b => k == k' && a == b
  | .string a, .string b => bytesOf a == bytesOf b
  | .pointer none, .pointer none => true
  | .pointer (some a), .pointer (some b) => Nat.beq a.block b.block && Nat.beq a.off b.off && a.spot.isNone && b.spot.isNone
  | .slice none l c, .slice none l' c' => Nat.beq l l' && Nat.beq c c'
  | .slice (some a) l c, .slice (some b) l' c' => Nat.beq a.block b.block && Nat.beq a.off b.off && a.spot.isNone && b.spot.isNone && Nat.beq l l' && Nat.beq c c'
  | .map none, .map none => true
  | .map (some a), .map (some b) => Nat.beq a b
  | .nilFunc, .nilFunc => true
  | .nilIface, .nilIface => true
  | .chan (some a), .chan (some b) => Nat.beq a b
  | .complex .f64 l n, .complex .f64 l' n' => Nat.beq l l' && Nat.beq n n'
  | .complex .f32 l n, .complex .f32 l' n' => Nat.beq l l' && Nat.beq n n'
  | .float .f64 a, .float .f64 b => Nat.beq a b
  | _, _ => false
def sameL : List Value → List Value → Bool
  | [], [] => true
  | a :: l, b :: m => same1 a b && sameL l m
  | _, _ => false
def sameV : Value → Value → Bool
  | .agg a, .agg b => sameL a.toList b.toList
  | a, b => same1 a b
def setE : List MapEntry → Nat → Value → List MapEntry
  | [], _, _ => []
  | e :: es, 0, v => { e with val := v } :: es
  | e :: es, i + 1, v => e :: setE es i v
def keyAt (es : List MapEntry) (i : Nat) : Value := match es[i]? with
  | some e => e.key
  | none => .tuple #[]

def zeros (zero : List Value) : Nat → List Value
  | 0 => []
  | n + 1 => zero ++ zeros zero n

/-- Is a slice's block one of such elements? -/
def ofElem (A : H) (elem : TypeId) : Option Addr → Bool
  | none => true
  | some a => match A.get a.block with
    | some (.cells _ e _) => Nat.beq e elem
    | _ => false
/-- The cells of what is appended or copied, n elements of it. -/
def sourceA (A : H) (size n : Nat) : Value → Option (List Value)
  | .slice (some a) _ _ => loadA A a (n * size)
  | .slice none _ _ => bif Nat.beq n 0 then some [] else none
  | .string s => bif Nat.beq size 1 && Nat.ble n (bytesOf s).length then some (((bytesOf s).take n).map byteV) else none
  | .complex .f64 l m => bif Nat.beq size 1 && Nat.ble n l then some ((decR l m).take n) else none
  | _ => none
def lenV : Value → Option Nat
  | .slice _ n _ => some n
  | .string s => some (bytesOf s).length
  | .complex .f64 l _ => some l
  | _ => none

def appendA (A : H) (elem : TypeId) (size bytes : Nat) (s x : Value) : Option (Value × H) :=
  match s with
  | .slice base sLen sCap => (lenV x).bind fun n => (sourceA A size n x).bind fun new =>
    bif Nat.ble (sLen + n) sCap then
      match base with
      | some a => (storeA A (a.add (sLen * size)) new).map fun A' => (.slice base (sLen + n) sCap, A')
      | none => some (.slice none (sLen + n) sCap, A)
    else bif Nat.ble ((sLen + n) * bytes) 140737488355328 && Nat.ble (sLen + n) 9223372036854775807 && new.all oneCell then
      match base with
      | some a => match A.get a.block with
        | some (.cells false e _) => bif Nat.beq e elem && Nat.beq (a.off % size) 0 then (loadA A a (sLen * size)).map fun old =>
            (.slice (some ⟨A.next, 0, none⟩) (sLen + n) (sLen + n), (A.drop a.block).push (.cells false elem (old ++ new))) else none
        | _ => none
      | none => bif Nat.beq sLen 0 && Nat.beq sCap 0 then some (.slice (some ⟨A.next, 0, none⟩) n n, A.push (.cells false elem new)) else none
    else none
  | _ => none

/-- A bound of a slice: as it is given, or d. -/
def highA (x : Option Value) (most d : Nat) : Option Nat :=
  match x with
  | some v => boundA v most
  | none => some d
def sliceHead (A : H) (e : TypeId) : Option Nat → Value → Option (Option Addr × Nat × Nat)
  | some n, .pointer (some p) => some (some p, n, n)
  | none, .slice a n c => bif ofElem A e a && Nat.ble n c then some (a, n, c) else none
  | _, _ => none
def entriesA (A : H) : Value → Option (List MapEntry)
  | .map none => some []
  | .map (some r) => match A.get r with
    | some (.map es _) => some es
    | _ => none
  | _ => none
/-- One operation that calls nobody. -/
def evalOp0 (op : XOp) (ρ : Operand → Value) (A : H) : Option (Value × H) :=
  match op with
  | .move x => some (ρ x, A)
  | .pick c a b => (boolV (ρ c)).map fun t => (bif t then ρ a else ρ b, A)
  | .alloc e z => some (.pointer (some ⟨A.next, 0, none⟩), A.push (.cells false e z))
  | .box e x => some (.pointer (some ⟨A.next, 0, none⟩), A.push (.cells false e (cellsL (ρ x))))
  | .build z ps => (fillA z (ps.map fun (o, n, x) => (o, n, ρ x))).map fun l => (aggL l, A)
  | .buildSlice e n z ps => (fillA z (ps.map fun (o, k, x) => (o, k, ρ x))).map fun l => (.slice (some ⟨A.next, 0, none⟩) n n, A.push (.cells false e l))
  | .load n agg a => match ρ a with
    | .pointer (some p) => (loadA A p n).bind fun l => (oneV agg l).map (·, A)
    | _ => none
  | .store n a x => match ρ a with
    | .pointer (some p) => let vs := cellsL (ρ x); bif Nat.beq vs.length n then (storeA A p vs).map fun A' => (.tuple #[], A') else none
    | _ => none
  | .nilCheck x => match ρ x with
    | .pointer (some p) => some (.pointer (some p), A)
    | _ => none
  | .bin op d x y => (binA op d (ρ x) (ρ y)).map (·, A)
  | .un op x => (unA op (ρ x)).map (·, A)
  | .toInt k x => match ρ x with
    | .chan (some i) => bif isKey i && decide (k = .u64) then some (.chan (some i), A) else none
    | .complex .f32 c n => ((fmOf (.complex .f32 c n)).bind (symTo k)).map fun v => (v, A)
    | v => (intV v).map fun n => (.int k (k.wrap n), A)
  | .toUnsafe x => match ρ x with
    | .pointer none => some (.pointer none, A)
    | .pointer (some p) => (loadA A p 1).map fun _ => (.pointer (some p), A)
    | _ => none
  | .assert own z x => match ρ x, own with
    | .nilIface, _ => some (.tuple #[z, .bool false], A)
    | .iface t v, some u => if t = u then some (.tuple #[v, .bool true], A) else some (.tuple #[z, .bool false], A)
    | _, _ => none
  | .isNil neg x y => match ρ x, ρ y with
    | .nilIface, .nilIface => some (.bool (!neg), A)
    | .iface _ _, .nilIface => some (.bool neg, A)
    | _, _ => none
  | .eqS neg l x y => (kindEq (.many l) (ρ x) (ρ y)).map fun b => (.bool (bif neg then !b else b), A)
  | .same x => (charsOf (ρ x)).map fun _ => (ρ x, A)
  | .toBytes e x => (charsOf (ρ x)).map fun l => (.slice (some ⟨A.next, 0, none⟩) l.length l.length, A.push (.cells false e l))
  | .ofBytes x => match ρ x with
    | .slice none _ _ => some (.string (ofBytes []), A)
    | .slice (some a) n _ => (loadA A a n).bind fun l => (mkStr l).map fun v => (v, A)
    | _ => none
  | .fieldAddr off x => match ρ x with
    | .pointer (some p) => some (.pointer (some (p.add off)), A)
    | _ => none
  | .indexAddr arr size x i => match intV (ρ i), arr, ρ x with
    | some i, some n, .pointer (some p) => if 0 ≤ i ∧ i < n then some (.pointer (some (p.add (i.toNat * size))), A) else none
    | some i, none, .slice (some p) n _ => if 0 ≤ i ∧ i < n then some (.pointer (some (p.add (i.toNat * size))), A) else none
    | _, _, _ => none
  | .field off size agg x => match ρ x with
    | .agg cs => (cut cs.toList off size).bind fun l => (oneV agg l).map (·, A)
    | _ => none
  | .index arr x i => match intV (ρ i), arr, ρ x with
    | some i, some (n, size, agg), .agg cs => if 0 ≤ i ∧ i < n then (cut cs.toList (i.toNat * size) size).bind fun l => (oneV agg l).map (·, A) else none
    | some i, none, .string s => if 0 ≤ i then ((bytesOf s)[i.toNat]?).map fun b => (byteV b, A) else none
    | some i, none, .complex .f64 l n => if 0 ≤ i ∧ i < l then some (charAt n i.toNat, A) else none
    | _, _, _ => none
  | .sliceStr x lo hi => match ρ x with
    | .string s => (highA (hi.map ρ) (bytesOf s).length (bytesOf s).length).bind fun h => (highA (lo.map ρ) h 0).map fun b =>
      (.string (ofBytes (((bytesOf s).take h).drop b)), A)
    | .complex .f64 l n => (highA (hi.map ρ) l l).bind fun h => (highA (lo.map ρ) h 0).bind fun b =>
      (mkStr (((decR l n).take h).drop b)).map fun v => (v, A)
    | _ => none
  | .slice e size arr x lo hi mx => (sliceHead A e arr (ρ x)).bind fun (h : Option Addr × Nat × Nat) =>
    (highA (mx.map ρ) h.2.2 h.2.2).bind fun m => (highA (hi.map ρ) m h.2.1).bind fun k => (highA (lo.map ρ) k 0).map fun l =>
    (.slice (h.1.map (·.add (l * size))) (k - l) (m - l), A)
  | .extract x i => match ρ x with
    | .tuple vs => (getN vs.toList i).map (·, A)
    | _ => none
  | .makeIface t x => some (.iface t (ρ x), A)
  | .makeFunc fn fs cs => some (.func fn ⟨fs.map ρ⟩ ⟨cs.map ρ⟩, A)
  | .makeMap => some (.map (some A.next), A.push (.map [] 0))
  | .mapPut d m k x => match ρ m with
    | .map (some r) => match A.get r with
      | some (.map es c) => match findK d (ρ k) es with
        | some none => some (.tuple #[], A.set r (.map (es ++ [{ key := ρ k, val := ρ x, born := c }]) (c + 1)))
        | some (some (i, _)) => bif sameV (keyAt es i) (ρ k) then some (.tuple #[], A.set r (.map (setE es i (ρ x)) c)) else none
        | none => none
      | _ => none
    | _ => none
  | .mapDel d m k => match ρ m with
    | .map none => bif kindOk d (ρ k) then some (.tuple #[], A) else none
    | .map (some r) => match A.get r with
      | some (.map es c) => match findK d (ρ k) es with
        | some none => some (.tuple #[], A.set r (.map es c))
        | some (some (i, _)) => some (.tuple #[], A.set r (.map (es.eraseIdx i) c))
        | none => none
      | _ => none
    | _ => none
  | .lookup d z m k ok => (entriesA A (ρ m)).bind fun es => (findK d (ρ k) es).map fun (f : Option (Nat × Value)) =>
    (bif ok then .tuple #[(f.map (·.2)).getD z, .bool f.isSome] else (f.map (·.2)).getD z, A)
  | .makeSlice e bytes _ z l c => match ρ l, ρ c with
    | .int _ l, .int _ c =>
      if 0 ≤ l ∧ l ≤ c ∧ bytes * c ≤ 140737488355328 ∧ c ≤ 9223372036854775807 then
        some (.slice (some ⟨A.next, 0, none⟩) l.toNat c.toNat, A.push (.cells false e (zeros z c.toNat)))
      else none
    | _, _ => none
  | .rangeStr x => (strV (ρ x)).map fun s => (.pointer (some ⟨A.next, 0, none⟩), A.push (.iter s 0))
  | .nextStr x => match ρ x with
    | .pointer (some ⟨r, 0, none⟩) => match A.get r with
      | some (.iter s pos) =>
        if pos < s.size then
          let (c, width) := Utf8.decode s pos
          some (.tuple #[.bool true, .int .i64 pos, .int .i32 c], A.set r (.iter s (pos + width)))
        else some (.tuple #[.bool false], A)
      | _ => none
    | _ => none
  | .len arr x => match arr, ρ x with
    | some n, _ => some (.int .i64 n, A)
    | none, .slice _ n _ => some (.int .i64 n, A)
    | none, _ => none
  | .lenStr x => match ρ x with
    | .string s => some (.int .i64 (bytesOf s).length, A)
    | .complex .f64 l _ => some (.int .i64 l, A)
    | .chan (some i) => (lenText i).map (·, A)
    | _ => none
  | .append e size bytes s x => appendA A e size bytes (ρ s) (ρ x)
  | .copy size d x => match ρ d with
    | .slice base dLen _ => (lenV (ρ x)).bind fun k =>
      let n := Nat.min k dLen
      (sourceA A size n (ρ x)).bind fun new =>
      match base with
      | some a => (storeA A a new).map fun A' => (.int .i64 n, A')
      | none => some (.int .i64 n, A)
    | _ => none
  | .clear z x => match ρ x with
    | .slice none _ _ => some (.tuple #[], A)
    | .slice (some a) n _ => bif Nat.beq n 0 then some (.tuple #[], A) else (storeA A a (zeros z n)).map fun A' => (.tuple #[], A')
    | _ => none
  | .minmax mx xs => match xs.map ρ with
    | .int k x :: rest => (rest.foldlM (fun (acc : Int) v => (intV v).map fun y => if mx then (if y > acc then y else acc) else (if y < acc then y else acc)) x).map fun n => (.int k n, A)
    | _ => none
  | .ext kd xs => extA kd (xs.map ρ) A
  | .call _ _ | .callV _ _ | .callI _ _ _ | .bad _ => none

/-- The key and the operands of what may be told. -/
def keyT : XOp → Option (TKey × List Operand)
  | .bin o _ x y => some (.bin o, [x, y])
  | .lenStr x => some (.len, [x])
  | .sliceStr x lo hi => some (.sub lo.isSome hi.isSome, x :: (lo.toList ++ hi.toList))
  | .toInt k x => some (.toInt k, [x])
  | .index none x i => some (.idx, [x, i])
  | .minmax mx xs => some (.mm mx, xs)
  | _ => none
def toldOp (op : XOp) (ρ : Operand → Value) : Option Value := match keyT op with
  | some (k, xs) => Kn.told k (xs.map ρ)
  | none => none
def evalOp (op : XOp) (ρ : Operand → Value) (A : H) : Option (Value × H) := match evalOp0 op ρ A with
  | some r => some r
  | none => (toldOp op ρ).map (·, A)
inductive XExit where
  | normal
  | exit (id : Nat)
  | ret

abbrev Tm := Tr Value
def val (t : Tm) : Operand → Value
  | .tmp i => (t.get i).getD (.tuple #[])
  | .const v => v
  | .global g => .pointer (some ⟨g, 0, none⟩)
  | .func f => .func (.func f) #[] #[]
def setT (t : Tm) (d : Option Tmp) (v : Value) : Tm := match d with
  | some d => t.put d (some v)
  | none => t

def argsT : List Value → Nat → Tm → Tm
  | [], _, t => t
  | v :: vs, i, t => argsT vs (i + 1) (t.put i (some v))

def resultsA (A : H) (t : Tm) : List (Nat × Option (Nat × Bool)) → Option (List Value)
  | [] => some []
  | (s, none) :: rest => (resultsA A t rest).map ((val t (.tmp s)) :: ·)
  | (s, some (n, agg)) :: rest => match val t (.tmp s) with
    | .pointer (some p) => (loadA A p n).bind fun l => (oneV agg l).bind fun v => (resultsA A t rest).map (v :: ·)
    | _ => none
def resultV : List Value → Value
  | [v] => v
  | vs => .tuple ⟨vs⟩

def wantedA (t : Tm) : Option (Tmp × Bool) → Bool
  | none => true
  | some (g, w) => match val t (.tmp g) with
    | .bool b => b == w
    | _ => false

/-- Who is called: the operation's callee, worked out. -/
def calleeA : Value → List Value → Option (FuncId × List Value)
  | .func (.func f) first cap, args => some (f, first.toList ++ args ++ cap.toList)
  | _, _ => none
/-- Who is called through an interface. -/
def calleeM (find : TypeId → Option FuncId) : Value → List Value → Option (FuncId × List Value)
  | .iface t v, args => (find t).map (·, v :: args)
  | _, _ => none
abbrev Caller := FuncId → List Value → H → Option (Value × H)
/-- An operation that is wanted. -/
def runOp (call : Caller) (op : XOp) (t : Tm) (A : H) : Option (Value × H) :=
  match op with
  | .call f args => call f (args.map (val t)) A
  | .callV f args => match calleeA (val t f) (args.map (val t)) with
    | some (f, args) => call f args A
    | none => none
  | .callI find r args => match calleeM find (val t r) (args.map (val t)) with
    | some (f, args) => call f args A
    | none => none
  | op => evalOp op (val t) A
def evalOne (call : Caller) (o : XOper) (t : Tm) (A : H) : Option (Tm × H) :=
  bif wantedA t o.guard then
    match runOp call o.op t A with
    | some (v, A') => some (setT t o.dst v, A')
    | none => none
  else some (setT t o.dst (.tuple #[]), A)
def evalOps (call : Caller) : List XOper → Tm → H → Option (Tm × H)
  | [], t, A => some (t, A)
  | o :: rest, t, A => match evalOne call o t A with
    | some (t, A) => evalOps call rest t A
    | none => none
/-- What was read ahead of an operation that may have come first reads as it did. -/
def again (t : Tm) (A : H) (o : XOper) : Bool :=
  bif wantedA t o.guard then
    match evalOp o.op (val t) A with
    | some (v, _) => match o.dst with
      | some d => sameV v (val t (.tmp d))
      | none => true
    | none => false
  else true
def evalDraw (call : Caller) : List (XOper × List XOper) → Tm → H → Option (Tm × H)
  | [], t, A => some (t, A)
  | (o, re) :: rest, t, A => match evalOne call o t A with
    | some (t, A) => bif re.all (again t A) then evalDraw call rest t A else none
    | none => none
/-- Code, with so many rounds of loops and calls at most. -/
def evalC (call : Caller) : Nat → XCode → Tm → H → Option (XExit × Tm × H)
  | 0, _, _, _ => none
  | n + 1, c, t, A => match c with
    | .skip => some (.normal, t, A)
    | .ops l => match evalOps call l t A with
      | some (t, A) => some (.normal, t, A)
      | none => none
    | .draw l => match evalDraw call l t A with
      | some (t, A) => some (.normal, t, A)
      | none => none
    | .seq a b => match evalC call n a t A with
      | some (.normal, t, A) => evalC call n b t A
      | r => r
    | .cond c a b => match val t c with
      | .bool true => evalC call n a t A
      | .bool false => evalC call n b t A
      | _ => none
    | .block id b => match evalC call n b t A with
      | some (.exit i, t, A) => bif Nat.beq i id then some (.normal, t, A) else some (.exit i, t, A)
      | r => r
    | .loop b => match evalC call n b t A with
      | some (.normal, t, A) => evalC call n (.loop b) t A
      | r => r
    | .exit id => some (.exit id, t, A)
    | .ret => some (.ret, t, A)
    | .bad _ => none
/-- A function: its code, or what it is known to answer. -/
inductive XFun where
  | body (f : XFunc)
  | dbody (nt : Nat) (results : List (Nat × Option (Nat × Bool))) (x : XCode) (f : Operand) (args : List Operand) (y : XCode)
  | nat (g : Caller → List Value → H → Option (Value × H))
section
variable (code : FuncId → Option XFun)
def evalF : Nat → Caller
  | 0, _, _, _ => none
  | n + 1, f, args, A => match code f with
    | none => none
    | some (.nat g) => g (evalF n) args A
    | some (.dbody nt results x f das y) => bif Nat.ble args.length nt then
        match evalC (evalF n) n x (argsT args 0 .nil) A with
        | some (.normal, t, A) => match calleeA (val t f) (das.map (val t)) with
          | some (g, das) => match evalC (evalF n) n y t A with
            | some (.exit _, _, _) => none
            | some (_, t, A) => match code g with
              | some (.body fn) => bif Nat.ble das.length fn.ntmps && fn.results.isEmpty then
                  match evalC (evalF n) n fn.late (argsT das 0 .nil) A with
                  | some (.exit _, _, _) => none
                  | some (_, _, A) => match resultsA A t results with
                    | some vs => some (resultV vs, A)
                    | none => none
                  | none => none
                else none
              | _ => none
            | none => none
          | none => none
        | _ => none
      else none
    | some (.body fn) => bif Nat.ble args.length fn.ntmps then
        match evalC (evalF n) n fn.body (argsT args 0 .nil) A with
        | some (.exit _, _, _) => none
        | some (_, t, A) => match resultsA A t fn.results with
          | some vs => some (resultV vs, A)
          | none => none
        | none => none
      else none
end

end
/-! ### From the program's code -/
def sizeA (P : Program) (t : TypeId) : Option Nat := (P.info? t).map (·.size)
def aggA (P : Program) (t : TypeId) : Option Bool := (P.underlying t).map fun | .struct _ | .array _ _ => true | _ => false
/-- A cell's value without addresses. -/
def flat1 : Value → Bool
  | .bool _ | .int _ _ | .string _ | .pointer none | .slice none _ _ | .map none | .nilFunc | .nilIface => true
  | _ => false
def zeroA (P : Program) (t : TypeId) : Option (List Value) := (P.info? t).bind fun i => i.zero.bind fun z => bif (cellsL z).all flat1 && Nat.beq (cellsL z).length i.size then some (cellsL z) else none
def placesA (P : Program) : List Field → Option (List (Nat × Nat))
  | [] => some []
  | f :: fs => (sizeA P f.type).bind fun n => (placesA P fs).map fun r => (f.offset, n) :: r
def partsA (place : Nat → Option (Nat × Nat)) : List (Nat × Operand) → Option (List (Nat × Nat × Operand))
  | [] => some []
  | (i, x) :: ps => (place i).bind fun q => (partsA place ps).map fun r => (q.1, q.2, x) :: r
def compParts (P : Program) (t : TypeId) (ps : List (Nat × Operand)) : Option (List (Nat × Nat × Operand)) :=
  match P.underlying t with
  | some (.struct fs) => (placesA P fs.toList).bind fun pl => partsA (pl[·]?) ps
  | some (.array _ e) => (sizeA P e).bind fun n => partsA (fun i => some (i * n, n)) ps
  | some (.slice e) => (sizeA P e).bind fun n => partsA (fun i => some (i * n, n)) ps
  | _ => none
def compBuiltin (P : Program) (b : Builtin) (ts : Array TypeId) (xs : List Operand) : Option XOp :=
  match b with
  | .len => match ts[0]?, xs with
    | some t, [x] => match P.underlying t with
      | some .string => some (.lenStr x)
      | some (.slice _) => some (.len none x)
      | some (.array n _) => some (.len (some n) x)
      | some (.pointer a) => match P.underlying a with
        | some (.array n _) => some (.len (some n) x)
        | _ => none
      | _ => none
    | _, _ => none
  | .append => match ts[0]?, ts[1]?, xs with
    | some t, some u, [s, x] => match P.underlying t, P.underlying u with
      | some (.slice e), some (.slice _) | some (.slice e), some .string => (P.info? e).bind fun i => (zeroA P e).map fun _ => .append e i.size i.bytes s x
      | _, _ => none
    | _, _, _ => none
  | .copy => match ts[0]?, xs with
    | some t, [s, x] => match P.underlying t with
      | some (.slice e) => (sizeA P e).map fun n => .copy n s x
      | _ => none
    | _, _ => none
  | .clear => match ts[0]?, xs with
    | some t, [x] => match P.underlying t with
      | some (.slice e) => (zeroA P e).map fun z => .clear z x
      | _ => none
    | _, _ => none
  | .delete => match ts[0]?, xs with
    | some t, [m, k] => match P.underlying t with
      | some (.map kt _) => (keyKind P kt).map fun d => .mapDel d m k
      | _ => none
    | _, _ => none
  | .min => some (.minmax false xs)
  | .max => some (.minmax true xs)
  | _ => none
/-- A type's own method of a name, which takes what the interface holds as it is. -/
def methodOf (P : Program) (name : String) (t : TypeId) : Option FuncId := (P.info? t).bind fun i => (i.methods.find? (·.name == name)).bind fun m => match m.path.toList, m.func, P.underlying t with
  | [], some (f, true), some (.pointer _) => some f
  | [], some (f, false), some (.struct _) => some f
  | [], some (f, false), some (.int _) => some f
  | _, _, _ => none
def compCall (P : Program) (c : Call) : Option XOp :=
  match c.callee with
  | .value (.func f) => match P.funcs[f]? with
    | some fn => if fn.body.isSome && fn.name != "runtime.NumGoroutine" then some (.call f c.args.toList) else if fn.body.isNone then (match extKind fn.name with | some kd => some (.ext kd c.args.toList) | none => none) else none
    | none => none
  | .value (.tmp t) => some (.callV (.tmp t) c.args.toList)
  | .value _ => none
  | .builtin b => compBuiltin P b c.argTypes c.args.toList
  | .invoke r name => some (.callI (methodOf P name) r c.args.toList)
def isNilC : Operand → Bool
  | .const .nilIface => true
  | _ => false
/-- Equality of structs of scalars, and with the nil of an interface, by themselves; all else as one. -/
def compBin (P : Program) (op : BinOp) (xt : TypeId) (d : TypeDesc) (x y : Operand) : Option XOp := match op, d with
  | .eql, .interface _ => bif isNilC y then some (.isNil false x y) else none
  | .neq, .interface _ => bif isNilC y then some (.isNil true x y) else none
  | .eql, .struct _ => match keyKind P xt with
    | some (.many l) => bif P.eqGuardType P.depth xt then none else some (.eqS false l x y)
    | _ => none
  | .neq, .struct _ => match keyKind P xt with
    | some (.many l) => bif P.eqGuardType P.depth xt then none else some (.eqS true l x y)
    | _ => none
  | op, d => some (.bin op d x y)
def compOp (P : Program) (o : Oper) : Option XOp :=
  match o.op with
  | .move x | .assign x => some (.move x)
  | .pick c a b => some (.pick c a b)
  | .alloc e => (zeroA P e).map (.alloc e)
  | .box e x => (sizeA P e).map fun _ => .box e x
  | .build t ps => (zeroA P t).bind fun z => match P.underlying t with
    | some (.struct _) | some (.array _ _) => (compParts P t ps.toList).map (.build z)
    | _ => none
  | .buildSlice t n ps => match P.underlying t with
    | some (.slice e) => (sizeA P e).bind fun s => (compParts P t ps.toList).bind fun q => (if n * s = 0 then some [] else if n * s > 16777216 then none else (zeroA P e).map fun z => zeros z n).map fun z => .buildSlice e n z q
    | _ => none
  | .load t a => (sizeA P t).bind fun n => (aggA P t).map fun b => .load n b a
  | .store t a x => (sizeA P t).map fun n => .store n a x
  | .nilCheck x => some (.nilCheck x)
  | .binOp op xt x y _ => (P.underlying xt).bind fun d => compBin P op xt d x y
  | .unOp op _ x => some (.un op x)
  | .convert s d x => match P.underlying s, P.underlying d with
    | some (.int _), some (.int k) => some (.toInt k x)
    | some .string, some .string => some (.same x)
    | some .string, some (.slice e) => match P.underlying e with
      | some (.int .u8) => bif (sizeA P e) == some 1 then some (.toBytes e x) else none
      | _ => none
    | some (.slice e), some .string => match P.underlying e with
      | some (.int .u8) => some (.ofBytes x)
      | _ => none
    | some (.pointer t), some .unsafePointer => (sizeA P t).bind fun n => if n = 0 then none else some (.toUnsafe x)
    | _, _ => none
  | .typeAssert x _ t ok => bif ok then ((P.info? t).bind (·.zero)).bind fun z => bif (cellsL z).all flat1 then (P.underlying t).map fun | .interface _ => .assert none z x | _ => .assert (some t) z x else none else none
  | .makeInterface t x => match P.underlying t with
    | some (.interface _) | none => none
    | _ => some (.makeIface t x)
  | .makeFunc fn first cap => some (.makeFunc fn first.toList cap.toList)
  | .makeMap _ r => if r.isNone then some .makeMap else none
  | .makeSlice t l c => match P.underlying t with
    | some (.slice e) => (P.info? e).bind fun i => (zeroA P e).map fun z => .makeSlice e i.bytes i.size z l c
    | _ => none
  | .slice t x lo hi mx => match P.underlying t with
    | some .string => if mx.isNone then some (.sliceStr x lo hi) else none
    | some (.slice e) => bif mx.isSome && hi.isNone then none else (sizeA P e).map fun s => .slice e s none x lo hi mx
    | some (.array n e) => bif mx.isSome && hi.isNone then none else (sizeA P e).map fun s => .slice e s (some n) x lo hi mx
    | _ => none
  | .fieldAddr s x f => match P.underlying s with
    | some (.struct fs) => (fs[f]?).bind fun fl => (sizeA P fl.type).bind fun n => if n = 0 then none else some (.fieldAddr fl.offset x)
    | _ => none
  | .field t x f => match P.underlying t with
    | some (.struct fs) => (fs[f]?).bind fun fl => (sizeA P fl.type).bind fun n => (aggA P fl.type).map fun b => .field fl.offset n b x
    | _ => none
  | .indexAddr t x i => match P.underlying t with
    | some (.array n e) => (sizeA P e).map fun s => .indexAddr (some n) s x i
    | some (.slice e) => (sizeA P e).map fun s => .indexAddr none s x i
    | _ => none
  | .index t x i => match P.underlying t with
    | some (.array n e) => (sizeA P e).bind fun s => (aggA P e).map fun b => .index (some (n, s, b)) x i
    | some .string => some (.index none x i)
    | _ => none
  | .lookup t m k ok => match P.underlying t with
    | some (.map kt e) => (keyKind P kt).bind fun d => ((P.info? e).bind (·.zero)).bind fun z => bif (cellsL z).all flat1 then some (.lookup d z m k ok) else none
    | _ => none
  | .mapUpdate t m k x | .insert t m k x => match P.underlying t with
    | some (.map kt _) => (keyKind P kt).map fun d => .mapPut d m k x
    | _ => none
  | .range t x => match P.underlying t with
    | some .string => some (.rangeStr x)
    | _ => none
  | .next x b => bif b then some (.nextStr x) else none
  | .extract x i => some (.extract x i)
  | .call c => compCall P c
  | _ => none
def okOperand (P : Program) (nt : Nat) : Operand → Bool
  | .tmp i => Nat.blt i nt
  | .const v => (cellsL v).all flat1
  | .global g => Nat.blt g P.globals.size
  | .func _ => true
def okDst (nt : Nat) : Option Tmp → Bool
  | none => true
  | some d => Nat.blt d nt
def compGuard (ops : Array Oper) : Option (Nat × Bool) → Option (Option (Tmp × Bool))
  | none => some none
  | some (j, w) => ((ops[j]?).bind (·.dst)).map fun d => some (d, w)
def compOper (P : Program) (nt : Nat) (ops : Array Oper) (o : Oper) : XOper :=
  match compOp P o, compGuard ops o.guard with
  | some x, some g => bif o.op.operands.toList.all (okOperand P nt) && okDst nt o.dst && okDst nt (g.map (·.1)) then { dst := o.dst, guard := g, op := x } else { dst := none, guard := none, op := .bad o.pos }
  | _, _ => { dst := none, guard := none, op := .bad o.pos }
/-- Those that only read, or make a block of their own. -/
def early : XOp → Bool
  | .move _ | .pick .. | .build .. | .load .. | .nilCheck _ | .bin .. | .un .. | .toInt .. | .toUnsafe _ | .assert .. | .isNil .. | .eqS .. | .same _ | .ofBytes _ | .fieldAddr .. | .indexAddr .. | .field .. | .index .. | .sliceStr .. | .slice ..
  | .extract .. | .makeIface .. | .makeFunc .. | .lookup .. | .len .. | .lenStr _ | .minmax ..
  | .alloc .. | .box .. | .buildSlice .. | .toBytes .. | .makeMap | .makeSlice .. | .rangeStr _ => true
  | _ => false
/-- Those that read the heap. -/
def looks : XOp → Bool
  | .load .. | .ofBytes _ | .slice .. | .lookup .. | .toUnsafe _ => true
  | _ => false
/-- The places of the operations that must come ahead, as bits: those that are named, and all. -/
def edgeBits (o : Oper) : Nat := o.after.toList.foldl (fun s e => bif Region.binds .any e then Nat.lor s (Nat.pow 2 e.on) else s) 0
def aheadBits (acc : List Nat) (o : Oper) : Nat := o.after.toList.foldl (fun s e => bif Region.binds .any e then Nat.lor (Nat.lor s (Nat.pow 2 e.on)) (acc.getD e.on 0) else s) 0
def aheads : List Nat → List Oper → List Nat
  | acc, [] => acc
  | acc, o :: os => aheads (acc ++ [aheadBits acc o]) os
/-- Which may come up behind those of `done`. -/
def readyA (es : List Nat) (n done : Nat) : List Nat := (List.range n).filter fun i => !Nat.testBit done i && Nat.beq (Nat.land (es.getD i 0) done) (es.getD i 0)
def opAt (xs : List XOper) (i : Nat) : XOper := xs.getD i { dst := none, guard := none, op := .bad "" }
/-- An order: whatever is early as soon as it may, else the one that may. -/
def orderA (es : List Nat) (xs : List XOper) : Nat → Nat → List Nat
  | 0, _ => []
  | k + 1, done =>
    let r := readyA es xs.length done
    match r.find? (fun i => early (opAt xs i).op) with
    | some i => i :: orderA es xs k (Nat.lor done (Nat.pow 2 i))
    | none => match r with
      | [i] => i :: orderA es xs k (Nat.lor done (Nat.pow 2 i))
      | _ => []
/-- Is an order right? -/
def okOrder (es : List Nat) (xs : List XOper) : Nat → List Nat → Bool
  | done, [] => (List.range xs.length).all fun i => Nat.testBit done i
  | done, i :: c => (bif early (opAt xs i).op then (readyA es xs.length done).contains i else readyA es xs.length done == [i]) && okOrder es xs (Nat.lor done (Nat.pow 2 i)) c
/-- An order's steps, each with what must be asked again behind it. -/
def stepsA (bs : List Nat) (xs : List XOper) : Nat → List Nat → List (XOper × List XOper)
  | _, [] => []
  | done, i :: c => (opAt xs i, bif early (opAt xs i).op then [] else ((List.range xs.length).filter fun e => Nat.testBit done e && looks (opAt xs e).op && !Nat.testBit (bs.getD i 0) e).map (opAt xs)) :: stepsA bs xs (Nat.lor done (Nat.pow 2 i)) c
/-- The slots that an operation looks at. -/
def slotsA (ops : Array Oper) (o : Oper) : List Tmp :=
  (o.op.operands.toList.filterMap fun | .tmp t => some t | _ => none) ++ (match o.guard with
    | some (g, _) => ((ops[g]?).bind (·.dst)).toList
    | none => [])
/-- Of two operations that may come in either order neither writes what the other one looks at, or writes. -/
def okPairs (dsts : List (Option Tmp)) (slots : List (List Tmp)) (bs : List Nat) (n : Nat) : Bool :=
  (List.range n).all fun i => match dsts.getD i none with
    | none => true
    | some d => (List.range n).all fun j => Nat.beq i j || ((match dsts.getD j none with | some d' => !Nat.beq d' d | none => true) && (!(slots.getD j []).contains d || Nat.testBit (bs.getD j 0) i || Nat.testBit (bs.getD i 0) j))
/-- What reads the heap looks at no slot that is written behind it. -/
def okLooks (xs : List XOper) (dsts : List (Option Tmp)) (slots : List (List Tmp)) (bs : List Nat) (n : Nat) : Bool :=
  (List.range n).all fun e => !looks (opAt xs e).op || (List.range n).all fun k => match dsts.getD k none with
    | none => true
    | some d => !(slots.getD e []).contains d || Nat.testBit (bs.getD e 0) k
def compDraw (P : Program) (nt : Nat) (ops : Array Oper) : XCode :=
  let l := ops.toList
  let xs := l.map (compOper P nt ops)
  let es := l.map edgeBits
  let bs := aheads [] l
  let c := orderA es xs l.length 0
  let dsts := l.map (·.dst)
  let slots := l.map (slotsA ops)
  bif okOrder es xs 0 c && okPairs dsts slots bs l.length && okLooks xs dsts slots bs l.length then .draw (stepsA bs xs 0 c) else .bad "draw"
def compC (P : Program) (nt : Nat) : Code → XCode
  | .skip | .label _ => .skip
  | .region _ ops draw => bif draw then compDraw P nt ops else .ops (ops.toList.map (compOper P nt ops))
  | .seq a b => .seq (compC P nt a) (compC P nt b)
  | .cond c a b => bif okOperand P nt c then .cond c (compC P nt a) (compC P nt b) else .bad "cond"
  | .block id b => .block id (compC P nt b)
  | .loop b => .loop (compC P nt b)
  | .exit id => .exit id
  | .ret => .ret
  | .scope _ => .bad "scope"
  | .rangeFunc .. => .bad "rangeFunc"
  | .goto _ => .bad "goto"
  | .refuse w => .bad w
/-- Of a deferred call at a normal end: nothing is recovered. -/
def compOperD (P : Program) (nt : Nat) (ops : Array Oper) (o : Oper) : XOper := match o.op, o.guard with
  | .call c, none => match c.callee, c.args.toList with
    | .builtin .recover, [] => bif okDst nt o.dst then { dst := o.dst, guard := none, op := .move (.const .nilIface) } else compOper P nt ops o
    | _, _ => compOper P nt ops o
  | _, _ => compOper P nt ops o
def compLate (P : Program) (nt : Nat) : Code → XCode
  | .region _ ops false => .ops (ops.toList.map (compOperD P nt ops))
  | .seq a b => .seq (compLate P nt a) (compC P nt b)
  | _ => .bad "late"
/-- A region that ends with a deferred call. -/
def splitR (P : Program) (nt : Nat) (ops : Array Oper) : Option (XCode × Operand × List Operand) := match ops.toList.getLast? with
  | some o => match o.op, o.guard, o.dst with
    | .defer c, none, none => match c.callee with
      | .value f => bif okOperand P nt f && c.args.toList.all (okOperand P nt) then some (.ops (ops.toList.dropLast.map (compOper P nt ops)), f, c.args.toList) else none
      | _ => none
    | _, _, _ => none
  | none => none
/-- Code that defers one call on its way. -/
def splitD (P : Program) (nt : Nat) : Code → Option (XCode × Operand × List Operand × XCode)
  | .seq (.region id ops false) b => match splitR P nt ops with
    | some (x, f, das) => some (x, f, das, compC P nt b)
    | none => (splitD P nt b).map fun r => (.seq (compC P nt (.region id ops false)) r.1, r.2)
  | _ => none
def compRes (P : Program) (nt : Nat) : List ResultVar → Option (List (Nat × Option (Nat × Bool)))
  | [] => some []
  | .tmp t :: r => bif Nat.blt t nt then (compRes P nt r).map ((t, none) :: ·) else none
  | .cell a t :: r => bif Nat.blt a nt then (sizeA P t).bind fun n => (aggA P t).bind fun b => (compRes P nt r).map ((a, some (n, b)) :: ·) else none
def compF (P : Program) (f : FuncId) : Option XFun :=
  (P.funcs[f]?).bind fun fn => bif fn.name == "runtime.NumGoroutine" then none else fn.body.bind fun c => (compRes P fn.ntmps fn.results.toList).map fun r => match splitD P fn.ntmps c with
    | some (x, f, das, y) => .dbody fn.ntmps r x f das y
    | none => .body { ntmps := fn.ntmps, body := compC P fn.ntmps c, results := r, late := compLate P fn.ntmps c }
end Go.Ab
