/- What some functions do to the abstract heap, told at once: strings.Repeat, strings.Builder's copyCheck and String, sync.Once's doSlow. -/
import Derived.Test.YtainaihfbljjoaaGreatDoorAbEval
set_option linter.all false
set_option linter.unusedSectionVars false
set_option linter.unusedVariables false
set_option linter.unusedSimpArgs false
namespace Go.Ab
open Go

def rep (l : List UInt8) : Nat → List UInt8
  | 0 => []
  | c + 1 => l ++ rep l c
def repeatA : Caller → List Value → H → Option (Value × H)
  | _, [.string s, .int .i64 c], A => if 0 ≤ c ∧ c ≤ 9223372036854775807 ∧ (bytesOf s).length * c.toNat ≤ 140737488355328 then some (.string (ofBytes (rep (bytesOf s) c.toNat)), A) else none
  | _, _, _ => none

def copyCheckA (T : TypeId) : Caller → List Value → H → Option (Value × H)
  | _, [.pointer (some ⟨id, off, none⟩)], A => match A.get id with
    | some (.cells false e c) => bif Nat.beq e T && Nat.beq (off % 2) 0 && Nat.ble (off + 2) c.length then
        match loadA A ⟨id, off, none⟩ 1 with
        | some [.pointer none] => (storeA A ⟨id, off, none⟩ [.pointer (some ⟨id, off, none⟩)]).map fun A' => (.tuple #[], A')
        | some [.pointer (some ⟨i, o, none⟩)] => bif Nat.beq i id && Nat.beq o off then some (.tuple #[], A) else none
        | _ => none
      else none
    | _ => none
  | _, _, _ => none

def stringA (B : TypeId) : Caller → List Value → H → Option (Value × H)
  | _, [.pointer (some ⟨id, off, none⟩)], A => match loadA A ⟨id, off + 1, none⟩ 1 with
    | some [.slice none l _] => bif Nat.beq l 0 then some (.string (ofBytes []), A) else none
    | some [.slice (some ⟨i, o, none⟩) n c] => match A.get i with
      | some (.cells false e cs) => bif Nat.beq e B && Nat.ble 1 n && Nat.ble n 9223372036854775807 && Nat.ble 1 c then
          (loadA A ⟨i, o, none⟩ n).bind fun l => (mkStr l).map fun v => (v, A.set i (.cells true e cs))
        else none
      | _ => none
    | _ => none
  | _, _, _ => none

def onceA (lock load store unlock : FuncId) : Caller → List Value → H → Option (Value × H)
  | call, [.pointer (some ⟨id, off, none⟩), f], A =>
    match call lock [.pointer (some ⟨id, off + 1, none⟩)] A with
    | none => none
    | some (_, A1) => match call load [.pointer (some ⟨id, off, none⟩)] A1 with
      | some (.bool false, A2) => match calleeA f [] with
        | none => none
        | some (g, as) => match call g as A2 with
          | none => none
          | some (_, A3) => match call store [.pointer (some ⟨id, off, none⟩), .bool true] A3 with
            | none => none
            | some (_, A4) => match call unlock [.pointer (some ⟨id, off + 1, none⟩)] A4 with
              | none => none
              | some (_, A5) => some (.tuple #[], A5)
      | _ => none
  | _, _, _ => none
/-- A byte's first place, or -1. -/
def idxB (c : UInt8) : List UInt8 → Nat → Int
  | [], _ => -1
  | b :: l, i => bif Nat.beq b.toNat c.toNat then Int.ofNat i else idxB c l (i + 1)
def indexByteA : Caller → List Value → H → Option (Value × H)
  | _, [.string s, .int .u8 c], A => some (.int .i64 (idxB (UInt8.ofNat c.toNat) (bytesOf s) 0), A)
  | _, _, _ => none
def textsV : List Value → Option (List (List UInt8))
  | [] => some []
  | .string s :: l => (textsV l).map (bytesOf s :: ·)
  | _ => none
def joinTl (sep : List UInt8) : List (List UInt8) → List UInt8
  | [] => []
  | x :: l => sep ++ x ++ joinTl sep l
def joinL (sep : List UInt8) : List (List UInt8) → List UInt8
  | [] => []
  | x :: l => x ++ joinTl sep l
def joinA : Caller → List Value → H → Option (Value × H)
  | _, [.slice (some ⟨id, off, none⟩) n c, .string sep], A => (loadA A ⟨id, off, none⟩ n).bind fun l => (textsV l).bind fun xs =>
    let r := joinL (bytesOf sep) xs
    bif Nat.ble n c && Nat.ble n 140737488355328 && Nat.ble r.length 140737488355328 then some (.string (ofBytes r), A) else none
  | _, _, _ => none
end Go.Ab
