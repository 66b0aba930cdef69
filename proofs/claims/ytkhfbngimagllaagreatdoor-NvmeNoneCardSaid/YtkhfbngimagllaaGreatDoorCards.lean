/-
  DERIVED. GIVEN WITH THE SEED: THE CARDS: each row of YtkhfbngimagllaaGreatDoorRows.lean that lists a variable, with what it lists TIED to the program's text (the seventh form; the later family's looks); each row that meets fmt, with fmt's text TOLD by the authors' own Lean function (tested against real Go, not proved from fmt's source: count such statements apart). THE CARD IS WHAT COUNTS. Prove the row's statement (the work); the ties are given (YtkhfbngimagllaaGreatDoorTie.lean); close each card by the builder's one call (the guide's Derived/Test/ToyasCard.lean, 'card_holds'). Laid BY PROGRAM, IN A SANDBOX (cutbox-door.mjs). By AI agents, Wed Nov 11 2026. No macro, syntax, notation, axiom, sorry.
-/
import Derived.Test.YtkhfbngimagllaaGreatDoorRows
import GoSem.ClaimSeven
namespace Go.Proofs.YtkhfbngimagllaaGreatDoor
namespace Rows

/-- THE TIED CARD OF 'headgatelaw28.NvmeNone'. -/
def nvmeNoneCard : Claim7 := { stood := { row := nvmeNoneRow, standIns := [], harness := (true, "88e92b6cbfa3dcab45c8a5c14cc19a835aa4f0d7f9e810d7c9be38be3afb2e92"), looks := false }, kinds := [], alts := [], laidByText := true, laidKinds := [.data, .data, .data, .data, .data, .data, .data, .data], laidTests := true, laidLooks := .later }
def NvmeNoneCardSaid : Prop := Claim7.holds Tryz.pinned (.plain (OpenSpec.ofChange nvmeNoneSpec)) nvmeNoneCard

/-- THE SECOND FORM's CARD OF 'headgatelaw28.NvmeNone'. -/
def nvmeNoneUptoCard : Claim7 := { stood := { row := nvmeNoneUptoRow, standIns := [], harness := (true, "88e92b6cbfa3dcab45c8a5c14cc19a835aa4f0d7f9e810d7c9be38be3afb2e92"), looks := false }, kinds := [], alts := [], laidByText := true, laidKinds := [.data, .data, .data, .data, .data, .data, .data, .data], laidTests := true, laidLooks := .later }
def NvmeNoneUptoCardSaid : Prop := Claim7.holds Tryz.pinned (.plain (OpenSpec.upto nvmeNoneSpec)) nvmeNoneUptoCard
end Rows
end Go.Proofs.YtkhfbngimagllaaGreatDoor
