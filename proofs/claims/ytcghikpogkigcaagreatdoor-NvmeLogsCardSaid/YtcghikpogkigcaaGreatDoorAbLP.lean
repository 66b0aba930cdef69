/- NvmeLogs: the law's code in pieces, and what is run of it. -/
import Derived.Test.YtcghikpogkigcaaGreatDoorAbLS1
import Derived.Test.YtcghikpogkigcaaGreatDoorAbLR
set_option linter.all false
set_option linter.unusedSectionVars false
set_option linter.unusedVariables false
set_option linter.unusedSimpArgs false
namespace Go.Ab
open Go
def pathX : List Nat → XCode → XCode
  | [], x => x
  | 0 :: p, .seq a _ => pathX p a
  | 1 :: p, .seq _ b => pathX p b
  | 2 :: p, .block _ b => pathX p b
  | 2 :: p, .loop b => pathX p b
  | _, _ => .skip
def pathC : List Nat → Code → Code
  | [], x => x
  | 0 :: p, .seq a _ => pathC p a
  | 1 :: p, .seq _ b => pathC p b
  | 2 :: p, .block _ b => pathC p b
  | 2 :: p, .loop b => pathC p b
  | _, _ => .skip
def pathOk : List Nat → Code → Bool
  | [], _ => true
  | 0 :: p, .seq a _ => pathOk p a
  | 1 :: p, .seq _ b => pathOk p b
  | 2 :: p, .block _ b => pathOk p b
  | 2 :: p, .loop b => pathOk p b
  | _, _ => false
theorem path_eq {P : Program} {nt : Nat} : ∀ (p : List Nat) (c : Code), pathOk p c = true → compC P nt (pathC p c) = pathX p (compC P nt c) := by
  intro p
  induction p with
  | nil => intro c _; simp only [pathC, pathX]
  | cons k p ih =>
    intro c h
    match k, c, h with
    | 0, .seq a b, h => simp only [pathOk] at h; simp only [pathC, compC, pathX]; exact ih a h
    | 1, .seq a b, h => simp only [pathOk] at h; simp only [pathC, compC, pathX]; exact ih b h
    | 2, .block i b, h => simp only [pathOk] at h; simp only [pathC, compC, pathX]; exact ih b h
    | 2, .loop b, h => simp only [pathOk] at h; simp only [pathC, compC, pathX]; exact ih b h
theorem range_all {p : Nat → Bool} {lo n : Nat} (h : (List.range' lo n).all p = true) (j : Nat) (h1 : lo ≤ j) (h2 : j < lo + n) : p j = true := by
  rw [List.all_eq_true] at h
  exact h j (List.mem_range'_1.2 ⟨h1, h2⟩)
end Go.Ab
namespace Go.Proofs.YtcghikpogkigcaaGreatDoor
open Go Go.Ab Go.Proofs Go.RowKit
set_option maxRecDepth 1000000
noncomputable def xb : XCode := (bodyOf (comp 3)).body
def h0 (i : Nat) : Bool := Nat.beq i 0
def hN (_ : Nat) : Bool := false
/-- The length of a host that is a name has few bits. -/
def lenK (D : PairL) : Option Bool :=
  bif D.any (fun p => Nat.beq p.2 1 && Nat.ble 40009 p.1 && Nat.blt p.1 40065) then some false
  else bif D.all (fun p => Nat.beq p.2 0 && Nat.ble 40009 p.1 && Nat.blt p.1 40065) then some true else none
noncomputable def retT : ContK := fun T _ => match rdT 4 T with
  | .bool b => b
  | _ => false
noncomputable def runB0 (xc : XCode) (ho hoE : Nat → Bool) (sts stsE : Nat → LS) (id : Nat) (T : LT) (S : LS) : Bool := runLT (knP fun _ => none) (fun _ => code) (fun _ => nats) 3 ho hoE 10 145 64 sts stsE id retT xc 5000 T S [] []
noncomputable def runL0 (xc : XCode) (ho hoE : Nat → Bool) (sts stsE : Nat → LS) (id : Nat) (T : LT) (S : LS) : Bool := runLT (knP lenK) (fun K => @L.code K) (fun K => @L.nats K) 3 ho hoE 10 145 64 sts stsE id retT xc 5000 T S [] []
noncomputable def runF0 (xc : XCode) (ho hoE : Nat → Bool) (sts stsE : Nat → LS) (id : Nat) (T : LT) (S : LS) : Bool := runLT (knP fun _ => none) (fun K => @F.code K) (fun K => @F.nats K) 3 ho hoE 10 145 64 sts stsE id retT xc 5000 T S [] []
namespace L
noncomputable def wA : List Nat := [0]
noncomputable def wB : List Nat := [1, 0]
noncomputable def wC : List Nat := [1, 1, 0]
noncomputable def wD : List Nat := [1, 1, 1, 0]
noncomputable def wE : List Nat := [1, 1, 1, 1, 0, 0]
noncomputable def wL : List Nat := [1, 1, 1, 1, 0, 1, 2, 2]
noncomputable def wX : List Nat := [1, 1, 1, 1, 1, 0]
noncomputable def wM : List Nat := [1, 1, 1, 1, 1, 1, 0, 0]
noncomputable def wQ : List Nat := [1, 1, 1, 1, 1, 1, 0, 1, 2, 2]
noncomputable def wR : List Nat := [1, 1, 1, 1, 1, 1, 1]
noncomputable def runE0 (V : Value) (K : List Value) : Bool := argsK [V, .chan (some 7000)] 0 TK.none fun T => fits 3 h0 10 145 (stA V K 0) [] 0 0 T ((otabH tabs).push (.cells true 33 K))
noncomputable def runA (V : Value) (K : List Value) : Bool := Go.Proofs.YtcghikpogkigcaaGreatDoor.runB0 (pathX wA xb) h0 h0 (stB V K) (stB V K) 0 tA (stA V K 0)
noncomputable def runB (V : Value) (K : List Value) : Bool := Go.Proofs.YtcghikpogkigcaaGreatDoor.runB0 (pathX wB xb) h0 h0 (stC V K) (stC V K) 0 tB (stB V K 0)
noncomputable def runC (V : Value) (K : List Value) : Bool := Go.Proofs.YtcghikpogkigcaaGreatDoor.runL0 (pathX wC xb) h0 h0 (stD V K) (stD V K) 0 tC (stC V K 0)
noncomputable def runCF (V : Value) (K : List Value) : Bool := Go.Proofs.YtcghikpogkigcaaGreatDoor.runF0 (pathX wC xb) h0 h0 (stD V K) (stD V K) 0 tCF (stC V K 0)
noncomputable def runD (V : Value) (K : List Value) : Bool := Go.Proofs.YtcghikpogkigcaaGreatDoor.runL0 (pathX wD xb) h0 h0 (stE V K) (stE V K) 0 tD (stD V K 0)
noncomputable def runE (V : Value) (K : List Value) : Bool := Go.Proofs.YtcghikpogkigcaaGreatDoor.runL0 (pathX wE xb) h0 h0 (stL V K) (stL V K) 0 tE (stE V K 0)
noncomputable def runT (V : Value) (K : List Value) (j : Nat) : Bool := Go.Proofs.YtcghikpogkigcaaGreatDoor.runL0 (pathX wL xb) h0 hN (stL V K) stX 0 (tL j) (stL V K j)
noncomputable def runX (V : Value) (K : List Value) (j : Nat) : Bool := Go.Proofs.YtcghikpogkigcaaGreatDoor.runL0 (pathX wL xb) h0 hN (stL V K) stX 0 (xL j) (stL V K j)
noncomputable def runXX (j : Nat) : Bool := Go.Proofs.YtcghikpogkigcaaGreatDoor.runL0 (pathX wX xb) hN hN stM stM 0 (tX j) (stX j)
noncomputable def runM (j : Nat) : Bool := Go.Proofs.YtcghikpogkigcaaGreatDoor.runL0 (pathX wM xb) hN hN stQ stQ 0 (tM j) (stM j)
noncomputable def runQ (j : Nat) : Bool := Go.Proofs.YtcghikpogkigcaaGreatDoor.runL0 (pathX wQ xb) hN hN stQ stQ 2 (tQ j) (stQ j)
/-- Where the states of a round begin. -/
def loL (i : Nat) : Nat := [0, 1, 3, 9, 25, 55, 103, 173, 269, 395].getD i 395
def loQ (i : Nat) : Nat := [0, 225, 449, 663, 821, 931, 1001, 1039, 1054, 1057].getD i 1057
def inL (i j : Nat) : Bool := Nat.ble (loL i) j && Nat.blt j (loL (i + 1))
def inQ (i j : Nat) : Bool := Nat.ble (loQ i) j && Nat.blt j (loQ (i + 1))
noncomputable def spT (i j : Nat) : Bool := ((tL j).spots false).all (inL (i + 1)) && ((tL j).spots true).isEmpty
noncomputable def spX (j : Nat) : Bool := ((xL j).spots true).all (fun k => Nat.blt k 225) && ((xL j).spots false).isEmpty
noncomputable def spXX (j : Nat) : Bool := ((tX j).spots false).all (fun k => Nat.blt k 225) && ((tX j).spots true).isEmpty
noncomputable def spM (j : Nat) : Bool := ((tM j).spots false).all (inQ 0) && ((tM j).spots true).isEmpty
noncomputable def spQ (i j : Nat) : Bool := ((tQ j).spots false).all (inQ (i + 1)) && ((tQ j).spots true).isEmpty
noncomputable def sp0 (T : LT) : Bool := (T.spots false).all (fun k => Nat.beq k 0) && (T.spots true).isEmpty
end L
end Go.Proofs.YtcghikpogkigcaaGreatDoor
