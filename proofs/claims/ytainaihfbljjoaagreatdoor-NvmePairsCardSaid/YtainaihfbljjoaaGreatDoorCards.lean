/-
  DERIVED. GIVEN WITH THE SEED: THE CARDS: each row of YtainaihfbljjoaaGreatDoorRows.lean that lists a variable, with what it lists TIED to the program's text (the seventh form; the later family's looks); each row that meets fmt, with fmt's text TOLD by the authors' own Lean function (tested against real Go, not proved from fmt's source: count such statements apart). THE CARD IS WHAT COUNTS. Prove the row's statement (the work); the ties are given (YtainaihfbljjoaaGreatDoorTie.lean); close each card by the builder's one call (the guide's Derived/Test/ToyasCard.lean, 'card_holds'). Laid BY PROGRAM, IN A SANDBOX (cutbox-door.mjs). By AI agents, Wed Nov 11 2026. No macro, syntax, notation, axiom, sorry.
-/
import Derived.Test.YtainaihfbljjoaaGreatDoorRows
import GoSem.ClaimSeven
namespace Go.Proofs.YtainaihfbljjoaaGreatDoor
namespace Rows

/-- THE TIED CARD OF 'headgatelaw28.NvmePairs'. -/
def nvmePairsCard : Claim7 := { stood := { row := nvmePairsRow, standIns := [], harness := (true, "bec075c778aaa4a45f0cbb2258d583132a8a936bd2fdfe0b12e2d0b5118e7cc9"), looks := false }, kinds := [], alts := [], laidByText := true, laidKinds := [.data, .data, .data, .data, .data, .data, .data, .data], laidTests := true, laidLooks := .later }
def NvmePairsCardSaid : Prop := Claim7.holds Tryz.pinned (.plain (OpenSpec.ofChange nvmePairsSpec)) nvmePairsCard

/-- THE SECOND FORM's CARD OF 'headgatelaw28.NvmePairs'. -/
def nvmePairsUptoCard : Claim7 := { stood := { row := nvmePairsUptoRow, standIns := [], harness := (true, "bec075c778aaa4a45f0cbb2258d583132a8a936bd2fdfe0b12e2d0b5118e7cc9"), looks := false }, kinds := [], alts := [], laidByText := true, laidKinds := [.data, .data, .data, .data, .data, .data, .data, .data], laidTests := true, laidLooks := .later }
def NvmePairsUptoCardSaid : Prop := Claim7.holds Tryz.pinned (.plain (OpenSpec.upto nvmePairsSpec)) nvmePairsUptoCard
end Rows
end Go.Proofs.YtainaihfbljjoaaGreatDoor
