/- Texts as numbers; values' keys. -/
import Derived.Test.YtainaihfbljjoaaGreatDoorAbEval
set_option linter.all false
set_option linter.unusedSectionVars false
set_option linter.unusedVariables false
set_option linter.unusedSimpArgs false
namespace Go.Ab
open Go
def strN : List UInt8 → Nat → Nat
  | [], a => a
  | b :: l, a => strN l (a * 256 + b.toNat)
def natL : Nat → Nat → List UInt8 → List UInt8
  | 0, _, acc => acc
  | k + 1, n, acc => natL k (n / 256) (UInt8.ofNat (n % 256) :: acc)
/-- A text of so many bytes, told as one number. -/
def nstr (len n : Nat) : ByteArray := ofBytes (natL len n [])
/-- A number by which values are told apart; nothing hangs on it. -/
def mixN (a x : Nat) : Nat := (a * 1000003 + x) % 18446744073709551557
def keyV (a : Nat) : Value → Nat
  | .bool b => mixN a (bif b then 1 else 2)
  | .int _ n => mixN a (n + 36893488147419103232).toNat
  | .string s => mixN a (strN (bytesOf s) 1)
  | .chan (some i) => mixN a (Nat.add i 5)
  | .complex _ l n => mixN (mixN a l) n
  | _ => mixN a 3
def keyL (a : Nat) : List Value → Nat
  | [] => a
  | v :: l => keyL (keyV a v) l
def keyW (a : Nat) : Value → Nat
  | .agg c => keyL a c.toList
  | v => keyV a v
def keyA (a : Nat) : List Value → Nat
  | [] => a
  | v :: l => keyA (keyW a v) l
end Go.Ab
