/- What some functions do to the abstract heap, told at once: strings.Repeat, strings.Builder's copyCheck and String, sync.Once's doSlow. -/
import Derived.Test.YtkhfbngimagllaaGreatDoorAbEval
namespace Go.Ab
open Go

def rep (l : List UInt8) : Nat → List UInt8
  | 0 => []
  | c + 1 => l ++ rep l c
def repeatA : Caller → List Value → H → Option (Value × H)
  | _, [.string s, .int .i64 c], A => if 0 ≤ c ∧ c ≤ 9223372036854775807 ∧ (bytesOf s).length * c.toNat ≤ 140737488355328 then some (.string (ofBytes (rep (bytesOf s) c.toNat)), A) else none
  | _, _, _ => none

def copyCheckA (T : TypeId) : Caller → List Value → H → Option (Value × H)
  | _, [.pointer (some ⟨id, off, none⟩)], A => match A.get id with
    | some (.cells false e c) => bif Nat.beq e T && Nat.beq (off % 2) 0 && Nat.ble (off + 2) c.length then
        match loadA A ⟨id, off, none⟩ 1 with
        | some [.pointer none] => (storeA A ⟨id, off, none⟩ [.pointer (some ⟨id, off, none⟩)]).map fun A' => (.tuple #[], A')
        | some [.pointer (some ⟨i, o, none⟩)] => bif Nat.beq i id && Nat.beq o off then some (.tuple #[], A) else none
        | _ => none
      else none
    | _ => none
  | _, _, _ => none

def stringA (B : TypeId) : Caller → List Value → H → Option (Value × H)
  | _, [.pointer (some ⟨id, off, none⟩)], A => match loadA A ⟨id, off + 1, none⟩ 1 with
    | some [.slice none l _] => bif Nat.beq l 0 then some (.string (ofBytes []), A) else none
    | some [.slice (some ⟨i, o, none⟩) n c] => match A.get i with
      | some (.cells false e cs) => bif Nat.beq e B && Nat.ble 1 n && Nat.ble n 9223372036854775807 && Nat.ble 1 c then
          (loadA A ⟨i, o, none⟩ n).bind fun l => (bytesV l).map fun l => (.string (ofBytes l), A.set i (.cells true e cs))
        else none
      | _ => none
    | _ => none
  | _, _, _ => none

def onceA (lock load store unlock : FuncId) : Caller → List Value → H → Option (Value × H)
  | call, [.pointer (some ⟨id, off, none⟩), f], A =>
    match call lock [.pointer (some ⟨id, off + 1, none⟩)] A with
    | none => none
    | some (_, A1) => match call load [.pointer (some ⟨id, off, none⟩)] A1 with
      | some (.bool false, A2) => match calleeA f [] with
        | none => none
        | some (g, as) => match call g as A2 with
          | none => none
          | some (_, A3) => match call store [.pointer (some ⟨id, off, none⟩), .bool true] A3 with
            | none => none
            | some (_, A4) => match call unlock [.pointer (some ⟨id, off + 1, none⟩)] A4 with
              | none => none
              | some (_, A5) => some (.tuple #[], A5)
      | _ => none
  | _, _, _ => none
end Go.Ab
