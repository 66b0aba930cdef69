/-
  DERIVED. GIVEN WITH THE SEED: THE PROGRAM's TIES (one call each: nine closed facts by the kernel) AND EACH ROW's TIE, after the 31st guide's Derived/Test/Toyas{Tie, Card}.lean. No idea stands in it: it is a product of the set-up. Laid BY PROGRAM, IN A SANDBOX (cutbox-door.mjs). By AI agents, Wed Nov 11 2026. No macro, syntax, notation, axiom, sorry.
-/
import Derived.Test.YthlpiipobcomfaaGreatDoorRows
import Derived.LaidByTextLater
import Derived.SevenTiedAt
import Derived.LaidSub
import Derived.LaidOnce
namespace Go.Proofs.YthlpiipobcomfaaGreatDoor
open Go
set_option maxRecDepth 100000
theorem seatTie1 : Tryz.prog.laidByTextLater [("headgate/crc.steps", Rows.laid_headgate_crc_steps), ("headgate/sqe.fieldsOf", Rows.laid_headgate_sqe_fieldsOf), ("headgate/sqe.endsOf", Rows.laid_headgate_sqe_endsOf), ("headgate/tpdu.forms", Rows.laid_headgate_tpdu_forms)] [.data, .data, .data, .data] true :=
  Program.laidByTextLater_by_one 55 8 34 (by kernel_rfl) (by kernel_rfl) (by kernel_rfl) (by kernel_rfl) (by kernel_rfl) (by kernel_rfl) (fun _ _ => by kernel_rfl)
theorem noOwnUnsafe : Tryz.pinned.checked.prog.headLifts.contains "ownunsafe" = false := by kernel_rfl
theorem tie : Tryz.prog.laidByTextLater [("headgate/crc.steps", Rows.laid_headgate_crc_steps), ("headgate/sqe.fieldsOf", Rows.laid_headgate_sqe_fieldsOf), ("headgate/sqe.endsOf", Rows.laid_headgate_sqe_endsOf), ("headgate/tpdu.forms", Rows.laid_headgate_tpdu_forms)] [.data, .data, .data, .data] true :=
  Program.laidByTextLater.sub seatTie1 ["headgate/crc.steps", "headgate/sqe.fieldsOf", "headgate/sqe.endsOf", "headgate/tpdu.forms"] (by kernel_rfl) (by kernel_rfl)
theorem queueGathers_row_tie : Rows.queueGathersRow.laidByTextAt .later Tryz.pinned [.data, .data, .data, .data] true :=
  OpenClaim.laidByTextAt_later rfl rfl tie noOwnUnsafe
theorem queueCuts_row_tie : Rows.queueCutsRow.laidByTextAt .later Tryz.pinned [.data, .data, .data, .data] true :=
  OpenClaim.laidByTextAt_later rfl rfl tie noOwnUnsafe
theorem queueBegins_row_tie : Rows.queueBeginsRow.laidByTextAt .later Tryz.pinned [.data, .data, .data, .data] true :=
  OpenClaim.laidByTextAt_later rfl rfl tie noOwnUnsafe
theorem queueReads_row_tie : Rows.queueReadsRow.laidByTextAt .later Tryz.pinned [.data, .data, .data, .data] true :=
  OpenClaim.laidByTextAt_later rfl rfl tie noOwnUnsafe
theorem queueTalks_row_tie : Rows.queueTalksRow.laidByTextAt .later Tryz.pinned [.data, .data, .data, .data] true :=
  OpenClaim.laidByTextAt_later rfl rfl tie noOwnUnsafe
theorem queueHolds_row_tie : Rows.queueHoldsRow.laidByTextAt .later Tryz.pinned [.data, .data, .data, .data] true :=
  OpenClaim.laidByTextAt_later rfl rfl tie noOwnUnsafe
theorem queueNone_row_tie : Rows.queueNoneRow.laidByTextAt .later Tryz.pinned [.data, .data, .data, .data] true :=
  OpenClaim.laidByTextAt_later rfl rfl tie noOwnUnsafe
theorem queueGathersUpto_row_tie : Rows.queueGathersUptoRow.laidByTextAt .later Tryz.pinned [.data, .data, .data, .data] true :=
  OpenClaim.laidByTextAt_later rfl rfl tie noOwnUnsafe
theorem queueCutsUpto_row_tie : Rows.queueCutsUptoRow.laidByTextAt .later Tryz.pinned [.data, .data, .data, .data] true :=
  OpenClaim.laidByTextAt_later rfl rfl tie noOwnUnsafe
theorem queueBeginsUpto_row_tie : Rows.queueBeginsUptoRow.laidByTextAt .later Tryz.pinned [.data, .data, .data, .data] true :=
  OpenClaim.laidByTextAt_later rfl rfl tie noOwnUnsafe
theorem queueReadsUpto_row_tie : Rows.queueReadsUptoRow.laidByTextAt .later Tryz.pinned [.data, .data, .data, .data] true :=
  OpenClaim.laidByTextAt_later rfl rfl tie noOwnUnsafe
theorem queueTalksUpto_row_tie : Rows.queueTalksUptoRow.laidByTextAt .later Tryz.pinned [.data, .data, .data, .data] true :=
  OpenClaim.laidByTextAt_later rfl rfl tie noOwnUnsafe
theorem queueHoldsUpto_row_tie : Rows.queueHoldsUptoRow.laidByTextAt .later Tryz.pinned [.data, .data, .data, .data] true :=
  OpenClaim.laidByTextAt_later rfl rfl tie noOwnUnsafe
theorem queueNoneUpto_row_tie : Rows.queueNoneUptoRow.laidByTextAt .later Tryz.pinned [.data, .data, .data, .data] true :=
  OpenClaim.laidByTextAt_later rfl rfl tie noOwnUnsafe
end Go.Proofs.YthlpiipobcomfaaGreatDoor
