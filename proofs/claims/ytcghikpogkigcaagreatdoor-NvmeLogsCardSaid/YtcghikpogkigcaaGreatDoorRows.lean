/-
  NARROWER THAN 'FOR EVERY INPUT', by the rows' own cells (each row's printed sentence says how): NvmeLogs: laid · NvmeNeeds: laid.
  DERIVED. THE GIVEN ROWS OF THIS SEAT. 2 by the template 'for every input the law returns true; each argument reads behind the call as it read before'; 0 by the template 'total and deterministic' (their statements: YtcghikpogkigcaaGreatDoorTotals.lean).
  GIVEN WITH THE SEED: the statements are not yours to turn. If you find one false, say at which input.
  Laid BY PROGRAM, IN A SANDBOX (cutbox-rows.mjs): the forced cells as the released guide's own fill.sh prints them over the translation 2523240a1ce3cd34… (all of the seat's roots in one cut). By AI agents, Wed Nov 11 2026. No macro, syntax, notation, axiom, sorry.
-/
import Derived.Test.YtcghikpogkigcaaGreatDoorChecked
import GoSem.Claim
import GoSem.ClaimJoined
import GoSem.ClaimMapViews
import Derived.JoinedTies
import Derived.KernelRfl
namespace Go.Proofs.YtcghikpogkigcaaGreatDoor
/- THE CELL 'sum', in the pinned program and in every row, IS THE sha256 OF THE DUMP (.gsa) THAT YtcghikpogkigcaaGreatDoorProg.lean LOADS. Nothing in Lean hashes anything: it is a label: what it is worth is what the hold of that sum in a sandbox is worth. -/
noncomputable def Tryz.pinned : Pinned := { name := "ytcghikpogkigcaagreatdoor", sum := "2523240a1ce3cd34e6a441d1bde426c8b6332f551e452ddff7fdce27749a8c0a", checked := Tryz.checked }
namespace Rows
def none {H : Type} : Left H := { results := [], args := [] }

/- WHAT THE LISTED PACKAGE-LEVEL VARIABLES READ AS WHEN THE CALL BEGINS. Each datum BY PROGRAM (the guide's laid-datum.mjs) off the statement by which the dump's own 'gosem.cut.vars' lays the variable. In a bare row this is a premise. The card (YtcghikpogkigcaaGreatDoorCards.lean) ties it to the program's text. -/
def laid_headgate_access_lets {H : Type} : DataW H := .agg [.lit (.int .i64 0), .lit (.int .i64 1), .lit (.int .i64 0), .lit (.int .i64 5), .lit (.int .i64 6), .lit (.int .i64 13), .lit (.int .i64 14)]
def laid_headgate_crc_steps {H : Type} : DataW H := .agg [.lit (.int .u32 0), .lit (.int .u32 274646895), .lit (.int .u32 549293790), .lit (.int .u32 820201905), .lit (.int .u32 1098587580), .lit (.int .u32 1361435347), .lit (.int .u32 1640403810), .lit (.int .u32 1905808397), .lit (.int .u32 2197175160), .lit (.int .u32 2460548119), .lit (.int .u32 2722870694), .lit (.int .u32 2987750089), .lit (.int .u32 3280807620), .lit (.int .u32 3553878443), .lit (.int .u32 3811616794), .lit (.int .u32 4084100981)]
def laid_headgate_nresv_actions {H : Type} : DataW H := .agg [.agg [.lit (.int .i64 13), .lit (.int .i64 0), .lit (.int .i64 8)], .agg [.lit (.int .i64 13), .lit (.int .i64 1), .lit (.int .i64 8)], .agg [.lit (.int .i64 13), .lit (.int .i64 2), .lit (.int .i64 8)], .agg [.lit (.int .i64 17), .lit (.int .i64 0), .lit (.int .i64 9)], .agg [.lit (.int .i64 17), .lit (.int .i64 1), .lit (.int .i64 12)], .agg [.lit (.int .i64 21), .lit (.int .i64 0), .lit (.int .i64 10)], .agg [.lit (.int .i64 21), .lit (.int .i64 1), .lit (.int .i64 11)]]
def laid_headgate_nresv_aptpls {H : Type} : DataW H := .agg [.lit (.int .i64 0), .lit (.int .i64 (-1)), .lit (.int .i64 1), .lit (.int .i64 2)]
def laid_headgate_sqe_fieldsOf {H : Type} : DataW H := .agg [.agg [.lit (.int .i64 0), .lit (.int .i64 1), .lit (.int .u64 256)], .agg [.lit (.int .i64 1), .lit (.int .i64 1), .lit (.int .u64 3)], .agg [.lit (.int .i64 2), .lit (.int .i64 2), .lit (.int .u64 65536)], .agg [.lit (.int .i64 4), .lit (.int .i64 4), .lit (.int .u64 4294967296)], .agg [.lit (.int .i64 32), .lit (.int .i64 4), .lit (.int .u64 4294967296)], .agg [.lit (.int .i64 40), .lit (.int .i64 4), .lit (.int .u64 4294967296)], .agg [.lit (.int .i64 44), .lit (.int .i64 4), .lit (.int .u64 4294967296)], .agg [.lit (.int .i64 48), .lit (.int .i64 4), .lit (.int .u64 4294967296)], .agg [.lit (.int .i64 52), .lit (.int .i64 4), .lit (.int .u64 4294967296)], .agg [.lit (.int .i64 56), .lit (.int .i64 4), .lit (.int .u64 4294967296)], .agg [.lit (.int .i64 60), .lit (.int .i64 4), .lit (.int .u64 4294967296)]]
def laid_headgate_sqe_endsOf {H : Type} : DataW H := .agg [.agg [.lit (.int .i64 0), .lit (.int .i64 4), .lit (.int .u64 4294967296)], .agg [.lit (.int .i64 4), .lit (.int .i64 4), .lit (.int .u64 4294967296)], .agg [.lit (.int .i64 8), .lit (.int .i64 2), .lit (.int .u64 65536)], .agg [.lit (.int .i64 10), .lit (.int .i64 2), .lit (.int .u64 65536)], .agg [.lit (.int .i64 12), .lit (.int .i64 2), .lit (.int .u64 65536)], .agg [.lit (.int .i64 14), .lit (.int .i64 2), .lit (.int .u64 32768)]]
def laid_headgate_nvme_rows {H : Type} : DataW H := .agg [.agg [.lit (.int .i64 1), .lit (.int .i64 0)], .agg [.lit (.int .i64 2), .lit (.int .i64 131)], .agg [.lit (.int .i64 3), .lit (.int .i64 645)], .agg [.lit (.int .i64 4), .lit (.int .i64 128)], .agg [.lit (.int .i64 5), .lit (.int .i64 2)], .agg [.lit (.int .i64 6), .lit (.int .i64 11)], .agg [.lit (.int .i64 8), .lit (.int .i64 6)]]
def laid_headgate_nvme_whys {H : Type} : DataW H := .agg [.lit (.int .u8 0), .lit (.int .u8 4), .lit (.int .u8 1), .lit (.int .u8 2), .lit (.int .u8 3)]

/-- 'headgatelaw28.NvmeLogs': WHATEVER THE INPUT: true; the input reads as it did. -/
def nvmeLogsSpec : ChangeSpec := { name := "nvmeLogs", fn := fun _ => fun
  | [d1, d2] => { results := [.lit (.bool true)], args := [d1, d2] }
  | _ => none }
def nvmeLogsRow : OpenClaim := { program := "ytcghikpogkigcaagreatdoor", sum := "2523240a1ce3cd34e6a441d1bde426c8b6332f551e452ddff7fdce27749a8c0a", func := "headgate/headgatelaw28.NvmeLogs", spec := "nvmeLogs", inPlace := ["sync/atomic.LoadUint32", "(*internal/sync.Mutex).Lock", "internal/race.Disable", "sync/atomic.CompareAndSwapInt32", "internal/race.Enable", "internal/race.Acquire", "(*internal/sync.Mutex).lockSlow", "internal/sync.runtime_canSpin", "internal/sync.runtime_doSpin", "internal/sync.throw", "internal/sync.runtime_nanotime", "internal/sync.runtime_SemacquireMutex", "sync/atomic.AddInt32", "(*internal/sync.Mutex).Unlock", "internal/race.ReleaseMerge", "(*internal/sync.Mutex).unlockSlow", "internal/sync.fatal", "internal/sync.runtime_Semrelease", "sync/atomic.StoreUint32", "internal/abi.NoEscape", "internal/bytealg.MakeNoZero", "sync/atomic.AddInt64", "sync/atomic.LoadInt64", "sync/atomic.StoreInt64"], unfollowed := true, recurses := true, named := ["headgate/crc.steps", "headgate/nresv.actions", "headgate/nresv.aptpls", "headgate/sqe.endsOf", "headgate/sqe.fieldsOf", "headgate/access.lets", "headgate/nvme.rows", "headgate/nvme.whys"], plainKeys := false, apart := false, laid := [("headgate/access.lets", laid_headgate_access_lets), ("headgate/crc.steps", laid_headgate_crc_steps), ("headgate/nresv.actions", laid_headgate_nresv_actions), ("headgate/nresv.aptpls", laid_headgate_nresv_aptpls), ("headgate/sqe.fieldsOf", laid_headgate_sqe_fieldsOf), ("headgate/sqe.endsOf", laid_headgate_sqe_endsOf), ("headgate/nvme.rows", laid_headgate_nvme_rows), ("headgate/nvme.whys", laid_headgate_nvme_whys)] }
def NvmeLogsSaid : Prop := nvmeLogsRow.holds Tryz.pinned (OpenSpec.ofChange nvmeLogsSpec)

/-- ITS FALSE NEIGHBOUR: 'it returns false'. Refute it at one input. -/
def nvmeLogsWrong : ChangeSpec := { name := "nvmeLogs", fn := fun _ => fun
  | [d1, d2] => { results := [.lit (.bool false)], args := [d1, d2] }
  | _ => none }
def NvmeLogsWrongFalsely : Prop := nvmeLogsRow.holds Tryz.pinned (OpenSpec.ofChange nvmeLogsWrong)

/-- 'headgatelaw28.NvmeNeeds': WHATEVER THE INPUT: true; the input reads as it did. -/
def nvmeNeedsSpec : ChangeSpec := { name := "nvmeNeeds", fn := fun _ => fun
  | [d1, d2] => { results := [.lit (.bool true)], args := [d1, d2] }
  | _ => none }
def nvmeNeedsRow : OpenClaim := { program := "ytcghikpogkigcaagreatdoor", sum := "2523240a1ce3cd34e6a441d1bde426c8b6332f551e452ddff7fdce27749a8c0a", func := "headgate/headgatelaw28.NvmeNeeds", spec := "nvmeNeeds", inPlace := ["sync/atomic.LoadUint32", "(*internal/sync.Mutex).Lock", "internal/race.Disable", "sync/atomic.CompareAndSwapInt32", "internal/race.Enable", "internal/race.Acquire", "(*internal/sync.Mutex).lockSlow", "internal/sync.runtime_canSpin", "internal/sync.runtime_doSpin", "internal/sync.throw", "internal/sync.runtime_nanotime", "internal/sync.runtime_SemacquireMutex", "sync/atomic.AddInt32", "(*internal/sync.Mutex).Unlock", "internal/race.ReleaseMerge", "(*internal/sync.Mutex).unlockSlow", "internal/sync.fatal", "internal/sync.runtime_Semrelease", "sync/atomic.StoreUint32", "internal/abi.NoEscape", "internal/bytealg.MakeNoZero", "sync/atomic.AddInt64", "sync/atomic.LoadInt64", "sync/atomic.StoreInt64"], unfollowed := true, recurses := true, named := ["headgate/crc.steps", "headgate/nresv.actions", "headgate/nresv.aptpls", "headgate/sqe.endsOf", "headgate/sqe.fieldsOf", "headgate/access.lets", "headgate/nvme.rows", "headgate/nvme.whys"], plainKeys := false, apart := false, laid := [("headgate/access.lets", laid_headgate_access_lets), ("headgate/crc.steps", laid_headgate_crc_steps), ("headgate/nresv.actions", laid_headgate_nresv_actions), ("headgate/nresv.aptpls", laid_headgate_nresv_aptpls), ("headgate/sqe.fieldsOf", laid_headgate_sqe_fieldsOf), ("headgate/sqe.endsOf", laid_headgate_sqe_endsOf), ("headgate/nvme.rows", laid_headgate_nvme_rows), ("headgate/nvme.whys", laid_headgate_nvme_whys)] }
def NvmeNeedsSaid : Prop := nvmeNeedsRow.holds Tryz.pinned (OpenSpec.ofChange nvmeNeedsSpec)

/-- ITS FALSE NEIGHBOUR: 'it returns false'. Refute it at one input. -/
def nvmeNeedsWrong : ChangeSpec := { name := "nvmeNeeds", fn := fun _ => fun
  | [d1, d2] => { results := [.lit (.bool false)], args := [d1, d2] }
  | _ => none }
def NvmeNeedsWrongFalsely : Prop := nvmeNeedsRow.holds Tryz.pinned (OpenSpec.ofChange nvmeNeedsWrong)

/- THE SECOND FORM. 'bulk': how many values and letters a reading holds, each counted each time it is reached (what is shared counts as often as it is met; a slice's spare places count too). A statement '..UptoSaid' is the law's where the arguments, and the package variables that the reading takes, are together of bulk at most 1048576: NARROWER than '..Said'. Prove '..Said' where nothing that the law and all that it calls make is longer than what came in: it says more and counts as full. Else prove '..UptoSaid'. A law counts once. -/
mutual
def uptoBulk {H : Type} : DataW H → Nat
  | .lit (.string bytes) => bytes.length + 1
  | .lit _ => 1
  | .nil => 1
  | .ptr d => uptoBulk d + 1
  | .slice elems spare => uptoBulkAll elems + uptoBulkAll spare + 1
  | .agg parts => uptoBulkAll parts + 1
  | .iface _ d => uptoBulk d + 1
  | .map entries => uptoBulkEntries entries + 1
  | .held _ => 1
def uptoBulkAll {H : Type} : List (DataW H) → Nat
  | [] => 0
  | d :: r => uptoBulk d + uptoBulkAll r
def uptoBulkEntries {H : Type} : List (Lit × DataW H) → Nat
  | [] => 0
  | x :: r => uptoBulkEntry x + uptoBulkEntries r
def uptoBulkEntry {H : Type} : Lit × DataW H → Nat
  | (.string bytes, d) => bytes.length + uptoBulk d + 1
  | (_, d) => uptoBulk d + 1
 end
def uptoSmall : (H : Type) → List (DataW H) → Bool := fun _ ds => decide (uptoBulkAll ds ≤ 1048576)
def OpenSpec.upto (s : _root_.Go.ChangeSpec) : _root_.Go.OpenSpec := { _root_.Go.OpenSpec.ofChange s with cond := some uptoSmall }

/-- 'headgatelaw28.NvmeLogs', WHERE WHAT IT READS IS OF BULK AT MOST 1048576: true; the input reads as it did. -/
def nvmeLogsUptoRow : OpenClaim := { program := "ytcghikpogkigcaagreatdoor", sum := "2523240a1ce3cd34e6a441d1bde426c8b6332f551e452ddff7fdce27749a8c0a", func := "headgate/headgatelaw28.NvmeLogs", spec := "nvmeLogs", inPlace := ["sync/atomic.LoadUint32", "(*internal/sync.Mutex).Lock", "internal/race.Disable", "sync/atomic.CompareAndSwapInt32", "internal/race.Enable", "internal/race.Acquire", "(*internal/sync.Mutex).lockSlow", "internal/sync.runtime_canSpin", "internal/sync.runtime_doSpin", "internal/sync.throw", "internal/sync.runtime_nanotime", "internal/sync.runtime_SemacquireMutex", "sync/atomic.AddInt32", "(*internal/sync.Mutex).Unlock", "internal/race.ReleaseMerge", "(*internal/sync.Mutex).unlockSlow", "internal/sync.fatal", "internal/sync.runtime_Semrelease", "sync/atomic.StoreUint32", "internal/abi.NoEscape", "internal/bytealg.MakeNoZero", "sync/atomic.AddInt64", "sync/atomic.LoadInt64", "sync/atomic.StoreInt64"], unfollowed := true, recurses := true, named := ["headgate/crc.steps", "headgate/nresv.actions", "headgate/nresv.aptpls", "headgate/sqe.endsOf", "headgate/sqe.fieldsOf", "headgate/access.lets", "headgate/nvme.rows", "headgate/nvme.whys"], plainKeys := false, apart := false, laid := [("headgate/access.lets", laid_headgate_access_lets), ("headgate/crc.steps", laid_headgate_crc_steps), ("headgate/nresv.actions", laid_headgate_nresv_actions), ("headgate/nresv.aptpls", laid_headgate_nresv_aptpls), ("headgate/sqe.fieldsOf", laid_headgate_sqe_fieldsOf), ("headgate/sqe.endsOf", laid_headgate_sqe_endsOf), ("headgate/nvme.rows", laid_headgate_nvme_rows), ("headgate/nvme.whys", laid_headgate_nvme_whys)], narrowed := true }
def NvmeLogsUptoSaid : Prop := nvmeLogsUptoRow.holds Tryz.pinned (OpenSpec.upto nvmeLogsSpec)

/-- 'headgatelaw28.NvmeNeeds', WHERE WHAT IT READS IS OF BULK AT MOST 1048576: true; the input reads as it did. -/
def nvmeNeedsUptoRow : OpenClaim := { program := "ytcghikpogkigcaagreatdoor", sum := "2523240a1ce3cd34e6a441d1bde426c8b6332f551e452ddff7fdce27749a8c0a", func := "headgate/headgatelaw28.NvmeNeeds", spec := "nvmeNeeds", inPlace := ["sync/atomic.LoadUint32", "(*internal/sync.Mutex).Lock", "internal/race.Disable", "sync/atomic.CompareAndSwapInt32", "internal/race.Enable", "internal/race.Acquire", "(*internal/sync.Mutex).lockSlow", "internal/sync.runtime_canSpin", "internal/sync.runtime_doSpin", "internal/sync.throw", "internal/sync.runtime_nanotime", "internal/sync.runtime_SemacquireMutex", "sync/atomic.AddInt32", "(*internal/sync.Mutex).Unlock", "internal/race.ReleaseMerge", "(*internal/sync.Mutex).unlockSlow", "internal/sync.fatal", "internal/sync.runtime_Semrelease", "sync/atomic.StoreUint32", "internal/abi.NoEscape", "internal/bytealg.MakeNoZero", "sync/atomic.AddInt64", "sync/atomic.LoadInt64", "sync/atomic.StoreInt64"], unfollowed := true, recurses := true, named := ["headgate/crc.steps", "headgate/nresv.actions", "headgate/nresv.aptpls", "headgate/sqe.endsOf", "headgate/sqe.fieldsOf", "headgate/access.lets", "headgate/nvme.rows", "headgate/nvme.whys"], plainKeys := false, apart := false, laid := [("headgate/access.lets", laid_headgate_access_lets), ("headgate/crc.steps", laid_headgate_crc_steps), ("headgate/nresv.actions", laid_headgate_nresv_actions), ("headgate/nresv.aptpls", laid_headgate_nresv_aptpls), ("headgate/sqe.fieldsOf", laid_headgate_sqe_fieldsOf), ("headgate/sqe.endsOf", laid_headgate_sqe_endsOf), ("headgate/nvme.rows", laid_headgate_nvme_rows), ("headgate/nvme.whys", laid_headgate_nvme_whys)], narrowed := true }
def NvmeNeedsUptoSaid : Prop := nvmeNeedsUptoRow.holds Tryz.pinned (OpenSpec.upto nvmeNeedsSpec)

end Rows
end Go.Proofs.YtcghikpogkigcaaGreatDoor
