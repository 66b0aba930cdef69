/-
  DERIVED. GIVEN WITH THE SEED: THE PROGRAM's TIES (one call each: nine closed facts by the kernel) AND EACH ROW's TIE, after the 31st guide's Derived/Test/Toyas{Tie, Card}.lean. No idea stands in it: it is a product of the set-up. Laid BY PROGRAM, IN A SANDBOX (cutbox-door.mjs). By AI agents, Wed Nov 11 2026. No macro, syntax, notation, axiom, sorry.
-/
import Derived.Test.YtcghikpogkigcaaGreatDoorRows
import Derived.LaidByTextLater
import Derived.SevenTiedAt
import Derived.LaidSub
import Derived.LaidOnce
namespace Go.Proofs.YtcghikpogkigcaaGreatDoor
open Go
set_option maxRecDepth 100000
theorem seatTie1 : Tryz.prog.laidByTextLater [("headgate/access.lets", Rows.laid_headgate_access_lets), ("headgate/crc.steps", Rows.laid_headgate_crc_steps), ("headgate/nresv.actions", Rows.laid_headgate_nresv_actions), ("headgate/nresv.aptpls", Rows.laid_headgate_nresv_aptpls), ("headgate/sqe.fieldsOf", Rows.laid_headgate_sqe_fieldsOf), ("headgate/sqe.endsOf", Rows.laid_headgate_sqe_endsOf), ("headgate/nvme.rows", Rows.laid_headgate_nvme_rows), ("headgate/nvme.whys", Rows.laid_headgate_nvme_whys)] [.data, .data, .data, .data, .data, .data, .data, .data] true :=
  Program.laidByTextLater_by_one 80 8 34 (by kernel_rfl) (by kernel_rfl) (by kernel_rfl) (by kernel_rfl) (by kernel_rfl) (by kernel_rfl) (fun _ _ => by kernel_rfl)
theorem noOwnUnsafe : Tryz.pinned.checked.prog.headLifts.contains "ownunsafe" = false := by kernel_rfl
theorem tie : Tryz.prog.laidByTextLater [("headgate/access.lets", Rows.laid_headgate_access_lets), ("headgate/crc.steps", Rows.laid_headgate_crc_steps), ("headgate/nresv.actions", Rows.laid_headgate_nresv_actions), ("headgate/nresv.aptpls", Rows.laid_headgate_nresv_aptpls), ("headgate/sqe.fieldsOf", Rows.laid_headgate_sqe_fieldsOf), ("headgate/sqe.endsOf", Rows.laid_headgate_sqe_endsOf), ("headgate/nvme.rows", Rows.laid_headgate_nvme_rows), ("headgate/nvme.whys", Rows.laid_headgate_nvme_whys)] [.data, .data, .data, .data, .data, .data, .data, .data] true :=
  Program.laidByTextLater.sub seatTie1 ["headgate/access.lets", "headgate/crc.steps", "headgate/nresv.actions", "headgate/nresv.aptpls", "headgate/sqe.fieldsOf", "headgate/sqe.endsOf", "headgate/nvme.rows", "headgate/nvme.whys"] (by kernel_rfl) (by kernel_rfl)
theorem nvmeLogs_row_tie : Rows.nvmeLogsRow.laidByTextAt .later Tryz.pinned [.data, .data, .data, .data, .data, .data, .data, .data] true :=
  OpenClaim.laidByTextAt_later rfl rfl tie noOwnUnsafe
theorem nvmeNeeds_row_tie : Rows.nvmeNeedsRow.laidByTextAt .later Tryz.pinned [.data, .data, .data, .data, .data, .data, .data, .data] true :=
  OpenClaim.laidByTextAt_later rfl rfl tie noOwnUnsafe
theorem nvmeLogsUpto_row_tie : Rows.nvmeLogsUptoRow.laidByTextAt .later Tryz.pinned [.data, .data, .data, .data, .data, .data, .data, .data] true :=
  OpenClaim.laidByTextAt_later rfl rfl tie noOwnUnsafe
theorem nvmeNeedsUpto_row_tie : Rows.nvmeNeedsUptoRow.laidByTextAt .later Tryz.pinned [.data, .data, .data, .data, .data, .data, .data, .data] true :=
  OpenClaim.laidByTextAt_later rfl rfl tie noOwnUnsafe
end Go.Proofs.YtcghikpogkigcaaGreatDoor
