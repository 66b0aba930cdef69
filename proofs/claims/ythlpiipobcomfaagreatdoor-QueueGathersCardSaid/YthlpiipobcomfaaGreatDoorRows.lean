/-
  NARROWER THAN 'FOR EVERY INPUT', by the rows' own cells (each row's printed sentence says how): QueueGathers: laid · QueueCuts: laid · QueueBegins: laid · QueueReads: laid · QueueTalks: laid · QueueHolds: laid · QueueNone: laid.
  DERIVED. THE GIVEN ROWS OF THIS SEAT. 7 by the template 'for every input the law returns true; each argument reads behind the call as it read before'; 0 by the template 'total and deterministic' (their statements: YthlpiipobcomfaaGreatDoorTotals.lean).
  GIVEN WITH THE SEED: the statements are not yours to turn. If you find one false, say at which input.
  Laid BY PROGRAM, IN A SANDBOX (cutbox-rows.mjs): the forced cells as the released guide's own fill.sh prints them over the translation fb353f027447554c… (all of the seat's roots in one cut). By AI agents, Wed Nov 11 2026. No macro, syntax, notation, axiom, sorry.
-/
import Derived.Test.YthlpiipobcomfaaGreatDoorChecked
import GoSem.Claim
import GoSem.ClaimJoined
import GoSem.ClaimMapViews
import Derived.JoinedTies
import Derived.KernelRfl
namespace Go.Proofs.YthlpiipobcomfaaGreatDoor
/- THE CELL 'sum', in the pinned program and in every row, IS THE sha256 OF THE DUMP (.gsa) THAT YthlpiipobcomfaaGreatDoorProg.lean LOADS. Nothing in Lean hashes anything: it is a label: what it is worth is what the hold of that sum in a sandbox is worth. -/
noncomputable def Tryz.pinned : Pinned := { name := "ythlpiipobcomfaagreatdoor", sum := "fb353f027447554ce3c1e389f9847a188d67b0bbab875ffd7454935c73f0dbea", checked := Tryz.checked }
namespace Rows
def none {H : Type} : Left H := { results := [], args := [] }

/- WHAT THE LISTED PACKAGE-LEVEL VARIABLES READ AS WHEN THE CALL BEGINS. Each datum BY PROGRAM (the guide's laid-datum.mjs) off the statement by which the dump's own 'gosem.cut.vars' lays the variable. In a bare row this is a premise. The card (YthlpiipobcomfaaGreatDoorCards.lean) ties it to the program's text. -/
def laid_headgate_crc_steps {H : Type} : DataW H := .agg [.lit (.int .u32 0), .lit (.int .u32 274646895), .lit (.int .u32 549293790), .lit (.int .u32 820201905), .lit (.int .u32 1098587580), .lit (.int .u32 1361435347), .lit (.int .u32 1640403810), .lit (.int .u32 1905808397), .lit (.int .u32 2197175160), .lit (.int .u32 2460548119), .lit (.int .u32 2722870694), .lit (.int .u32 2987750089), .lit (.int .u32 3280807620), .lit (.int .u32 3553878443), .lit (.int .u32 3811616794), .lit (.int .u32 4084100981)]
def laid_headgate_sqe_fieldsOf {H : Type} : DataW H := .agg [.agg [.lit (.int .i64 0), .lit (.int .i64 1), .lit (.int .u64 256)], .agg [.lit (.int .i64 1), .lit (.int .i64 1), .lit (.int .u64 3)], .agg [.lit (.int .i64 2), .lit (.int .i64 2), .lit (.int .u64 65536)], .agg [.lit (.int .i64 4), .lit (.int .i64 4), .lit (.int .u64 4294967296)], .agg [.lit (.int .i64 32), .lit (.int .i64 4), .lit (.int .u64 4294967296)], .agg [.lit (.int .i64 40), .lit (.int .i64 4), .lit (.int .u64 4294967296)], .agg [.lit (.int .i64 44), .lit (.int .i64 4), .lit (.int .u64 4294967296)], .agg [.lit (.int .i64 48), .lit (.int .i64 4), .lit (.int .u64 4294967296)], .agg [.lit (.int .i64 52), .lit (.int .i64 4), .lit (.int .u64 4294967296)], .agg [.lit (.int .i64 56), .lit (.int .i64 4), .lit (.int .u64 4294967296)], .agg [.lit (.int .i64 60), .lit (.int .i64 4), .lit (.int .u64 4294967296)]]
def laid_headgate_sqe_endsOf {H : Type} : DataW H := .agg [.agg [.lit (.int .i64 0), .lit (.int .i64 4), .lit (.int .u64 4294967296)], .agg [.lit (.int .i64 4), .lit (.int .i64 4), .lit (.int .u64 4294967296)], .agg [.lit (.int .i64 8), .lit (.int .i64 2), .lit (.int .u64 65536)], .agg [.lit (.int .i64 10), .lit (.int .i64 2), .lit (.int .u64 65536)], .agg [.lit (.int .i64 12), .lit (.int .i64 2), .lit (.int .u64 65536)], .agg [.lit (.int .i64 14), .lit (.int .i64 2), .lit (.int .u64 32768)]]
def laid_headgate_tpdu_forms {H : Type} : DataW H := .agg [.agg [.lit (.int .i64 120), .lit (.int .i64 0), .lit (.bool false)], .agg [.lit (.int .i64 120), .lit (.int .i64 0), .lit (.bool false)], .agg [.lit (.int .i64 16), .lit (.int .i64 128), .lit (.bool false)], .agg [.lit (.int .i64 16), .lit (.int .i64 128), .lit (.bool false)], .agg [.lit (.int .i64 64), .lit (.int .i64 16384), .lit (.bool true)], .agg [.lit (.int .i64 16), .lit (.int .i64 0), .lit (.bool true)], .agg [.lit (.int .i64 16), .lit (.int .i64 16384), .lit (.bool true)], .agg [.lit (.int .i64 16), .lit (.int .i64 16384), .lit (.bool true)], .agg [.lit (.int .i64 0), .lit (.int .i64 0), .lit (.bool false)], .agg [.lit (.int .i64 16), .lit (.int .i64 0), .lit (.bool true)]]

/-- 'headgatelaw30.QueueGathers': WHATEVER THE INPUT: true; the input reads as it did. -/
def queueGathersSpec : ChangeSpec := { name := "queueGathers", fn := fun _ => fun
  | [d1, d2, d3] => { results := [.lit (.bool true)], args := [d1, d2, d3] }
  | _ => none }
def queueGathersRow : OpenClaim := { program := "ythlpiipobcomfaagreatdoor", sum := "fb353f027447554ce3c1e389f9847a188d67b0bbab875ffd7454935c73f0dbea", func := "headgate/headgatelaw30.QueueGathers", spec := "queueGathers", inPlace := ["sync/atomic.AddInt64"], unfollowed := true, recurses := true, named := ["headgate/tpdu.forms", "headgate/crc.steps", "headgate/sqe.endsOf", "headgate/sqe.fieldsOf"], apart := false, laid := [("headgate/crc.steps", laid_headgate_crc_steps), ("headgate/sqe.fieldsOf", laid_headgate_sqe_fieldsOf), ("headgate/sqe.endsOf", laid_headgate_sqe_endsOf), ("headgate/tpdu.forms", laid_headgate_tpdu_forms)] }
def QueueGathersSaid : Prop := queueGathersRow.holds Tryz.pinned (OpenSpec.ofChange queueGathersSpec)

/-- ITS FALSE NEIGHBOUR: 'it returns false'. Refute it at one input. -/
def queueGathersWrong : ChangeSpec := { name := "queueGathers", fn := fun _ => fun
  | [d1, d2, d3] => { results := [.lit (.bool false)], args := [d1, d2, d3] }
  | _ => none }
def QueueGathersWrongFalsely : Prop := queueGathersRow.holds Tryz.pinned (OpenSpec.ofChange queueGathersWrong)

/-- 'headgatelaw30.QueueCuts': WHATEVER THE INPUT: true; the input reads as it did. -/
def queueCutsSpec : ChangeSpec := { name := "queueCuts", fn := fun _ => fun
  | [d1, d2] => { results := [.lit (.bool true)], args := [d1, d2] }
  | _ => none }
def queueCutsRow : OpenClaim := { program := "ythlpiipobcomfaagreatdoor", sum := "fb353f027447554ce3c1e389f9847a188d67b0bbab875ffd7454935c73f0dbea", func := "headgate/headgatelaw30.QueueCuts", spec := "queueCuts", inPlace := ["sync/atomic.AddInt64"], unfollowed := true, recurses := true, named := ["headgate/tpdu.forms", "headgate/crc.steps", "headgate/sqe.endsOf", "headgate/sqe.fieldsOf"], apart := false, laid := [("headgate/crc.steps", laid_headgate_crc_steps), ("headgate/sqe.fieldsOf", laid_headgate_sqe_fieldsOf), ("headgate/sqe.endsOf", laid_headgate_sqe_endsOf), ("headgate/tpdu.forms", laid_headgate_tpdu_forms)] }
def QueueCutsSaid : Prop := queueCutsRow.holds Tryz.pinned (OpenSpec.ofChange queueCutsSpec)

/-- ITS FALSE NEIGHBOUR: 'it returns false'. Refute it at one input. -/
def queueCutsWrong : ChangeSpec := { name := "queueCuts", fn := fun _ => fun
  | [d1, d2] => { results := [.lit (.bool false)], args := [d1, d2] }
  | _ => none }
def QueueCutsWrongFalsely : Prop := queueCutsRow.holds Tryz.pinned (OpenSpec.ofChange queueCutsWrong)

/-- 'headgatelaw30.QueueBegins': WHATEVER THE INPUT: true; the input reads as it did. -/
def queueBeginsSpec : ChangeSpec := { name := "queueBegins", fn := fun _ => fun
  | [d1, d2, d3] => { results := [.lit (.bool true)], args := [d1, d2, d3] }
  | _ => none }
def queueBeginsRow : OpenClaim := { program := "ythlpiipobcomfaagreatdoor", sum := "fb353f027447554ce3c1e389f9847a188d67b0bbab875ffd7454935c73f0dbea", func := "headgate/headgatelaw30.QueueBegins", spec := "queueBegins", inPlace := ["sync/atomic.AddInt64"], unfollowed := true, recurses := true, named := ["headgate/tpdu.forms", "headgate/crc.steps", "headgate/sqe.endsOf", "headgate/sqe.fieldsOf"], apart := false, laid := [("headgate/crc.steps", laid_headgate_crc_steps), ("headgate/sqe.fieldsOf", laid_headgate_sqe_fieldsOf), ("headgate/sqe.endsOf", laid_headgate_sqe_endsOf), ("headgate/tpdu.forms", laid_headgate_tpdu_forms)] }
def QueueBeginsSaid : Prop := queueBeginsRow.holds Tryz.pinned (OpenSpec.ofChange queueBeginsSpec)

/-- ITS FALSE NEIGHBOUR: 'it returns false'. Refute it at one input. -/
def queueBeginsWrong : ChangeSpec := { name := "queueBegins", fn := fun _ => fun
  | [d1, d2, d3] => { results := [.lit (.bool false)], args := [d1, d2, d3] }
  | _ => none }
def QueueBeginsWrongFalsely : Prop := queueBeginsRow.holds Tryz.pinned (OpenSpec.ofChange queueBeginsWrong)

/-- 'headgatelaw30.QueueReads': WHATEVER THE INPUT: true; the input reads as it did. -/
def queueReadsSpec : ChangeSpec := { name := "queueReads", fn := fun _ => fun
  | [d1, d2] => { results := [.lit (.bool true)], args := [d1, d2] }
  | _ => none }
def queueReadsRow : OpenClaim := { program := "ythlpiipobcomfaagreatdoor", sum := "fb353f027447554ce3c1e389f9847a188d67b0bbab875ffd7454935c73f0dbea", func := "headgate/headgatelaw30.QueueReads", spec := "queueReads", inPlace := ["sync/atomic.AddInt64"], unfollowed := true, recurses := true, named := ["headgate/tpdu.forms", "headgate/crc.steps", "headgate/sqe.endsOf", "headgate/sqe.fieldsOf"], apart := false, laid := [("headgate/crc.steps", laid_headgate_crc_steps), ("headgate/sqe.fieldsOf", laid_headgate_sqe_fieldsOf), ("headgate/sqe.endsOf", laid_headgate_sqe_endsOf), ("headgate/tpdu.forms", laid_headgate_tpdu_forms)] }
def QueueReadsSaid : Prop := queueReadsRow.holds Tryz.pinned (OpenSpec.ofChange queueReadsSpec)

/-- ITS FALSE NEIGHBOUR: 'it returns false'. Refute it at one input. -/
def queueReadsWrong : ChangeSpec := { name := "queueReads", fn := fun _ => fun
  | [d1, d2] => { results := [.lit (.bool false)], args := [d1, d2] }
  | _ => none }
def QueueReadsWrongFalsely : Prop := queueReadsRow.holds Tryz.pinned (OpenSpec.ofChange queueReadsWrong)

/-- 'headgatelaw30.QueueTalks': WHATEVER THE INPUT: true; the input reads as it did. -/
def queueTalksSpec : ChangeSpec := { name := "queueTalks", fn := fun _ => fun
  | [d1, d2] => { results := [.lit (.bool true)], args := [d1, d2] }
  | _ => none }
def queueTalksRow : OpenClaim := { program := "ythlpiipobcomfaagreatdoor", sum := "fb353f027447554ce3c1e389f9847a188d67b0bbab875ffd7454935c73f0dbea", func := "headgate/headgatelaw30.QueueTalks", spec := "queueTalks", inPlace := ["sync/atomic.AddInt64"], unfollowed := true, recurses := true, named := ["headgate/tpdu.forms", "headgate/crc.steps", "headgate/sqe.endsOf", "headgate/sqe.fieldsOf"], apart := false, laid := [("headgate/crc.steps", laid_headgate_crc_steps), ("headgate/sqe.fieldsOf", laid_headgate_sqe_fieldsOf), ("headgate/sqe.endsOf", laid_headgate_sqe_endsOf), ("headgate/tpdu.forms", laid_headgate_tpdu_forms)] }
def QueueTalksSaid : Prop := queueTalksRow.holds Tryz.pinned (OpenSpec.ofChange queueTalksSpec)

/-- ITS FALSE NEIGHBOUR: 'it returns false'. Refute it at one input. -/
def queueTalksWrong : ChangeSpec := { name := "queueTalks", fn := fun _ => fun
  | [d1, d2] => { results := [.lit (.bool false)], args := [d1, d2] }
  | _ => none }
def QueueTalksWrongFalsely : Prop := queueTalksRow.holds Tryz.pinned (OpenSpec.ofChange queueTalksWrong)

/-- 'headgatelaw30.QueueHolds': WHATEVER THE INPUT: true; the input reads as it did. -/
def queueHoldsSpec : ChangeSpec := { name := "queueHolds", fn := fun _ => fun
  | [d] => { results := [.lit (.bool true)], args := [d] }
  | _ => none }
def queueHoldsRow : OpenClaim := { program := "ythlpiipobcomfaagreatdoor", sum := "fb353f027447554ce3c1e389f9847a188d67b0bbab875ffd7454935c73f0dbea", func := "headgate/headgatelaw30.QueueHolds", spec := "queueHolds", inPlace := ["sync/atomic.AddInt64"], unfollowed := true, recurses := true, named := ["headgate/tpdu.forms", "headgate/crc.steps", "headgate/sqe.endsOf", "headgate/sqe.fieldsOf"], apart := false, laid := [("headgate/crc.steps", laid_headgate_crc_steps), ("headgate/sqe.fieldsOf", laid_headgate_sqe_fieldsOf), ("headgate/sqe.endsOf", laid_headgate_sqe_endsOf), ("headgate/tpdu.forms", laid_headgate_tpdu_forms)] }
def QueueHoldsSaid : Prop := queueHoldsRow.holds Tryz.pinned (OpenSpec.ofChange queueHoldsSpec)

/-- ITS FALSE NEIGHBOUR: 'it returns false'. Refute it at one input. -/
def queueHoldsWrong : ChangeSpec := { name := "queueHolds", fn := fun _ => fun
  | [d] => { results := [.lit (.bool false)], args := [d] }
  | _ => none }
def QueueHoldsWrongFalsely : Prop := queueHoldsRow.holds Tryz.pinned (OpenSpec.ofChange queueHoldsWrong)

/-- 'headgatelaw30.QueueNone': WHATEVER THE INPUT: true; the input reads as it did. -/
def queueNoneSpec : ChangeSpec := { name := "queueNone", fn := fun _ => fun
  | [d1, d2] => { results := [.lit (.bool true)], args := [d1, d2] }
  | _ => none }
def queueNoneRow : OpenClaim := { program := "ythlpiipobcomfaagreatdoor", sum := "fb353f027447554ce3c1e389f9847a188d67b0bbab875ffd7454935c73f0dbea", func := "headgate/headgatelaw30.QueueNone", spec := "queueNone", inPlace := ["sync/atomic.AddInt64"], unfollowed := true, recurses := true, named := ["headgate/tpdu.forms", "headgate/crc.steps", "headgate/sqe.endsOf", "headgate/sqe.fieldsOf"], apart := false, laid := [("headgate/crc.steps", laid_headgate_crc_steps), ("headgate/sqe.fieldsOf", laid_headgate_sqe_fieldsOf), ("headgate/sqe.endsOf", laid_headgate_sqe_endsOf), ("headgate/tpdu.forms", laid_headgate_tpdu_forms)] }
def QueueNoneSaid : Prop := queueNoneRow.holds Tryz.pinned (OpenSpec.ofChange queueNoneSpec)

/-- ITS FALSE NEIGHBOUR: 'it returns false'. Refute it at one input. -/
def queueNoneWrong : ChangeSpec := { name := "queueNone", fn := fun _ => fun
  | [d1, d2] => { results := [.lit (.bool false)], args := [d1, d2] }
  | _ => none }
def QueueNoneWrongFalsely : Prop := queueNoneRow.holds Tryz.pinned (OpenSpec.ofChange queueNoneWrong)

/- THE SECOND FORM. 'bulk': how many values and letters a reading holds, each counted each time it is reached (what is shared counts as often as it is met; a slice's spare places count too). A statement '..UptoSaid' is the law's where the arguments, and the package variables that the reading takes, are together of bulk at most 1048576: NARROWER than '..Said'. Prove '..Said' where nothing that the law and all that it calls make is longer than what came in: it says more and counts as full. Else prove '..UptoSaid'. A law counts once. -/
mutual
def uptoBulk {H : Type} : DataW H → Nat
  | .lit (.string bytes) => bytes.length + 1
  | .lit _ => 1
  | .nil => 1
  | .ptr d => uptoBulk d + 1
  | .slice elems spare => uptoBulkAll elems + uptoBulkAll spare + 1
  | .agg parts => uptoBulkAll parts + 1
  | .iface _ d => uptoBulk d + 1
  | .map entries => uptoBulkEntries entries + 1
  | .held _ => 1
def uptoBulkAll {H : Type} : List (DataW H) → Nat
  | [] => 0
  | d :: r => uptoBulk d + uptoBulkAll r
def uptoBulkEntries {H : Type} : List (Lit × DataW H) → Nat
  | [] => 0
  | x :: r => uptoBulkEntry x + uptoBulkEntries r
def uptoBulkEntry {H : Type} : Lit × DataW H → Nat
  | (.string bytes, d) => bytes.length + uptoBulk d + 1
  | (_, d) => uptoBulk d + 1
 end
def uptoSmall : (H : Type) → List (DataW H) → Bool := fun _ ds => decide (uptoBulkAll ds ≤ 1048576)
def OpenSpec.upto (s : _root_.Go.ChangeSpec) : _root_.Go.OpenSpec := { _root_.Go.OpenSpec.ofChange s with cond := some uptoSmall }

/-- 'headgatelaw30.QueueGathers', WHERE WHAT IT READS IS OF BULK AT MOST 1048576: true; the input reads as it did. -/
def queueGathersUptoRow : OpenClaim := { program := "ythlpiipobcomfaagreatdoor", sum := "fb353f027447554ce3c1e389f9847a188d67b0bbab875ffd7454935c73f0dbea", func := "headgate/headgatelaw30.QueueGathers", spec := "queueGathers", inPlace := ["sync/atomic.AddInt64"], unfollowed := true, recurses := true, named := ["headgate/tpdu.forms", "headgate/crc.steps", "headgate/sqe.endsOf", "headgate/sqe.fieldsOf"], apart := false, laid := [("headgate/crc.steps", laid_headgate_crc_steps), ("headgate/sqe.fieldsOf", laid_headgate_sqe_fieldsOf), ("headgate/sqe.endsOf", laid_headgate_sqe_endsOf), ("headgate/tpdu.forms", laid_headgate_tpdu_forms)], narrowed := true }
def QueueGathersUptoSaid : Prop := queueGathersUptoRow.holds Tryz.pinned (OpenSpec.upto queueGathersSpec)

/-- 'headgatelaw30.QueueCuts', WHERE WHAT IT READS IS OF BULK AT MOST 1048576: true; the input reads as it did. -/
def queueCutsUptoRow : OpenClaim := { program := "ythlpiipobcomfaagreatdoor", sum := "fb353f027447554ce3c1e389f9847a188d67b0bbab875ffd7454935c73f0dbea", func := "headgate/headgatelaw30.QueueCuts", spec := "queueCuts", inPlace := ["sync/atomic.AddInt64"], unfollowed := true, recurses := true, named := ["headgate/tpdu.forms", "headgate/crc.steps", "headgate/sqe.endsOf", "headgate/sqe.fieldsOf"], apart := false, laid := [("headgate/crc.steps", laid_headgate_crc_steps), ("headgate/sqe.fieldsOf", laid_headgate_sqe_fieldsOf), ("headgate/sqe.endsOf", laid_headgate_sqe_endsOf), ("headgate/tpdu.forms", laid_headgate_tpdu_forms)], narrowed := true }
def QueueCutsUptoSaid : Prop := queueCutsUptoRow.holds Tryz.pinned (OpenSpec.upto queueCutsSpec)

/-- 'headgatelaw30.QueueBegins', WHERE WHAT IT READS IS OF BULK AT MOST 1048576: true; the input reads as it did. -/
def queueBeginsUptoRow : OpenClaim := { program := "ythlpiipobcomfaagreatdoor", sum := "fb353f027447554ce3c1e389f9847a188d67b0bbab875ffd7454935c73f0dbea", func := "headgate/headgatelaw30.QueueBegins", spec := "queueBegins", inPlace := ["sync/atomic.AddInt64"], unfollowed := true, recurses := true, named := ["headgate/tpdu.forms", "headgate/crc.steps", "headgate/sqe.endsOf", "headgate/sqe.fieldsOf"], apart := false, laid := [("headgate/crc.steps", laid_headgate_crc_steps), ("headgate/sqe.fieldsOf", laid_headgate_sqe_fieldsOf), ("headgate/sqe.endsOf", laid_headgate_sqe_endsOf), ("headgate/tpdu.forms", laid_headgate_tpdu_forms)], narrowed := true }
def QueueBeginsUptoSaid : Prop := queueBeginsUptoRow.holds Tryz.pinned (OpenSpec.upto queueBeginsSpec)

/-- 'headgatelaw30.QueueReads', WHERE WHAT IT READS IS OF BULK AT MOST 1048576: true; the input reads as it did. -/
def queueReadsUptoRow : OpenClaim := { program := "ythlpiipobcomfaagreatdoor", sum := "fb353f027447554ce3c1e389f9847a188d67b0bbab875ffd7454935c73f0dbea", func := "headgate/headgatelaw30.QueueReads", spec := "queueReads", inPlace := ["sync/atomic.AddInt64"], unfollowed := true, recurses := true, named := ["headgate/tpdu.forms", "headgate/crc.steps", "headgate/sqe.endsOf", "headgate/sqe.fieldsOf"], apart := false, laid := [("headgate/crc.steps", laid_headgate_crc_steps), ("headgate/sqe.fieldsOf", laid_headgate_sqe_fieldsOf), ("headgate/sqe.endsOf", laid_headgate_sqe_endsOf), ("headgate/tpdu.forms", laid_headgate_tpdu_forms)], narrowed := true }
def QueueReadsUptoSaid : Prop := queueReadsUptoRow.holds Tryz.pinned (OpenSpec.upto queueReadsSpec)

/-- 'headgatelaw30.QueueTalks', WHERE WHAT IT READS IS OF BULK AT MOST 1048576: true; the input reads as it did. -/
def queueTalksUptoRow : OpenClaim := { program := "ythlpiipobcomfaagreatdoor", sum := "fb353f027447554ce3c1e389f9847a188d67b0bbab875ffd7454935c73f0dbea", func := "headgate/headgatelaw30.QueueTalks", spec := "queueTalks", inPlace := ["sync/atomic.AddInt64"], unfollowed := true, recurses := true, named := ["headgate/tpdu.forms", "headgate/crc.steps", "headgate/sqe.endsOf", "headgate/sqe.fieldsOf"], apart := false, laid := [("headgate/crc.steps", laid_headgate_crc_steps), ("headgate/sqe.fieldsOf", laid_headgate_sqe_fieldsOf), ("headgate/sqe.endsOf", laid_headgate_sqe_endsOf), ("headgate/tpdu.forms", laid_headgate_tpdu_forms)], narrowed := true }
def QueueTalksUptoSaid : Prop := queueTalksUptoRow.holds Tryz.pinned (OpenSpec.upto queueTalksSpec)

/-- 'headgatelaw30.QueueHolds', WHERE WHAT IT READS IS OF BULK AT MOST 1048576: true; the input reads as it did. -/
def queueHoldsUptoRow : OpenClaim := { program := "ythlpiipobcomfaagreatdoor", sum := "fb353f027447554ce3c1e389f9847a188d67b0bbab875ffd7454935c73f0dbea", func := "headgate/headgatelaw30.QueueHolds", spec := "queueHolds", inPlace := ["sync/atomic.AddInt64"], unfollowed := true, recurses := true, named := ["headgate/tpdu.forms", "headgate/crc.steps", "headgate/sqe.endsOf", "headgate/sqe.fieldsOf"], apart := false, laid := [("headgate/crc.steps", laid_headgate_crc_steps), ("headgate/sqe.fieldsOf", laid_headgate_sqe_fieldsOf), ("headgate/sqe.endsOf", laid_headgate_sqe_endsOf), ("headgate/tpdu.forms", laid_headgate_tpdu_forms)], narrowed := true }
def QueueHoldsUptoSaid : Prop := queueHoldsUptoRow.holds Tryz.pinned (OpenSpec.upto queueHoldsSpec)

/-- 'headgatelaw30.QueueNone', WHERE WHAT IT READS IS OF BULK AT MOST 1048576: true; the input reads as it did. -/
def queueNoneUptoRow : OpenClaim := { program := "ythlpiipobcomfaagreatdoor", sum := "fb353f027447554ce3c1e389f9847a188d67b0bbab875ffd7454935c73f0dbea", func := "headgate/headgatelaw30.QueueNone", spec := "queueNone", inPlace := ["sync/atomic.AddInt64"], unfollowed := true, recurses := true, named := ["headgate/tpdu.forms", "headgate/crc.steps", "headgate/sqe.endsOf", "headgate/sqe.fieldsOf"], apart := false, laid := [("headgate/crc.steps", laid_headgate_crc_steps), ("headgate/sqe.fieldsOf", laid_headgate_sqe_fieldsOf), ("headgate/sqe.endsOf", laid_headgate_sqe_endsOf), ("headgate/tpdu.forms", laid_headgate_tpdu_forms)], narrowed := true }
def QueueNoneUptoSaid : Prop := queueNoneUptoRow.holds Tryz.pinned (OpenSpec.upto queueNoneSpec)

end Rows
end Go.Proofs.YthlpiipobcomfaaGreatDoor
