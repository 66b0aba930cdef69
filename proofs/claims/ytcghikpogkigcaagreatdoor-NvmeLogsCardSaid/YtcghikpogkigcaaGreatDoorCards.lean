/-
  DERIVED. GIVEN WITH THE SEED: THE CARDS: each row of YtcghikpogkigcaaGreatDoorRows.lean that lists a variable, with what it lists TIED to the program's text (the seventh form; the later family's looks); each row that meets fmt, with fmt's text TOLD by the authors' own Lean function (tested against real Go, not proved from fmt's source: count such statements apart). THE CARD IS WHAT COUNTS. Prove the row's statement (the work); the ties are given (YtcghikpogkigcaaGreatDoorTie.lean); close each card by the builder's one call (the guide's Derived/Test/ToyasCard.lean, 'card_holds'). Laid BY PROGRAM, IN A SANDBOX (cutbox-door.mjs). By AI agents, Wed Nov 11 2026. No macro, syntax, notation, axiom, sorry.
-/
import Derived.Test.YtcghikpogkigcaaGreatDoorRows
import GoSem.ClaimSeven
namespace Go.Proofs.YtcghikpogkigcaaGreatDoor
namespace Rows

/-- THE TIED CARD OF 'headgatelaw28.NvmeLogs'. -/
def nvmeLogsCard : Claim7 := { stood := { row := nvmeLogsRow, standIns := [], harness := (true, "51d2c5754c123320f28c4cedf617ec117eabe42809bc9ac8f406a0e3f4c3579e"), looks := false }, kinds := [], alts := [], laidByText := true, laidKinds := [.data, .data, .data, .data, .data, .data, .data, .data], laidTests := true, laidLooks := .later }
def NvmeLogsCardSaid : Prop := Claim7.holds Tryz.pinned (.plain (OpenSpec.ofChange nvmeLogsSpec)) nvmeLogsCard

/-- THE TIED CARD OF 'headgatelaw28.NvmeNeeds'. -/
def nvmeNeedsCard : Claim7 := { stood := { row := nvmeNeedsRow, standIns := [], harness := (true, "51d2c5754c123320f28c4cedf617ec117eabe42809bc9ac8f406a0e3f4c3579e"), looks := false }, kinds := [], alts := [], laidByText := true, laidKinds := [.data, .data, .data, .data, .data, .data, .data, .data], laidTests := true, laidLooks := .later }
def NvmeNeedsCardSaid : Prop := Claim7.holds Tryz.pinned (.plain (OpenSpec.ofChange nvmeNeedsSpec)) nvmeNeedsCard

/-- THE SECOND FORM's CARD OF 'headgatelaw28.NvmeLogs'. -/
def nvmeLogsUptoCard : Claim7 := { stood := { row := nvmeLogsUptoRow, standIns := [], harness := (true, "51d2c5754c123320f28c4cedf617ec117eabe42809bc9ac8f406a0e3f4c3579e"), looks := false }, kinds := [], alts := [], laidByText := true, laidKinds := [.data, .data, .data, .data, .data, .data, .data, .data], laidTests := true, laidLooks := .later }
def NvmeLogsUptoCardSaid : Prop := Claim7.holds Tryz.pinned (.plain (OpenSpec.upto nvmeLogsSpec)) nvmeLogsUptoCard

/-- THE SECOND FORM's CARD OF 'headgatelaw28.NvmeNeeds'. -/
def nvmeNeedsUptoCard : Claim7 := { stood := { row := nvmeNeedsUptoRow, standIns := [], harness := (true, "51d2c5754c123320f28c4cedf617ec117eabe42809bc9ac8f406a0e3f4c3579e"), looks := false }, kinds := [], alts := [], laidByText := true, laidKinds := [.data, .data, .data, .data, .data, .data, .data, .data], laidTests := true, laidLooks := .later }
def NvmeNeedsUptoCardSaid : Prop := Claim7.holds Tryz.pinned (.plain (OpenSpec.upto nvmeNeedsSpec)) nvmeNeedsUptoCard
end Rows
end Go.Proofs.YtcghikpogkigcaaGreatDoor
