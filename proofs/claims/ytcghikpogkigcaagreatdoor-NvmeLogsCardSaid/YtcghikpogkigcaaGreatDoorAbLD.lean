/- NvmeLogs: slots that the second loop does not name, and what is run for lists of eight entries. -/
import Derived.Test.YtcghikpogkigcaaGreatDoorAbLP
import Derived.Test.YtcghikpogkigcaaGreatDoorAbLTB
import Derived.Test.YtcghikpogkigcaaGreatDoorAbDead
set_option linter.all false
set_option linter.unusedSectionVars false
set_option linter.unusedVariables false
set_option linter.unusedSimpArgs false
namespace Go.Proofs.YtcghikpogkigcaaGreatDoor.L
open Go Go.Ab Go.Proofs Go.RowKit
set_option maxRecDepth 1000000
def dl : List Nat := [42, 43, 44, 45, 46]
def de (i : Nat) : Bool := dl.any (Nat.beq i)
def extOf : LT → Option Spot
  | .leaf _ e => e
  | _ => none
/-- The exit of the first loop, dead slots being whatever. -/
noncomputable def runXD (V : Value) (K : List Value) (j : Nat) : Bool := argsK (stL V K j).ts 0 TK.none fun T => @kC (knP lenK [] []) (pathX wL xb) (@kF (knP lenK [] []) (@code (knP lenK [] [])) (@nats (knP lenK [] [])) 5000)
  (fun i => bif Nat.beq i 0 then spotD 3 dl de 10 145 64 stX (extOf (xL j)) else fun _ _ => false) retT (fun _ _ => false) T (stL V K j).H
def cleanB : Value → Bool
  | .bool _ => true
  | .tuple c => c.toList.isEmpty
  | .float .f32 0 => true
  | _ => false
noncomputable def clX (j : Nat) : Bool := dl.all fun i => match (stX j).ts[i]? with
  | some v => cleanB v
  | none => false
noncomputable def spXD (j : Nat) : Bool := match extOf (xL j) with
  | some s => Nat.blt s.j 225
  | none => true
end Go.Proofs.YtcghikpogkigcaaGreatDoor.L
