/-
  DERIVED. GIVEN WITH THE SEED: THE CARDS: each row of YthlpiipobcomfaaGreatDoorRows.lean that lists a variable, with what it lists TIED to the program's text (the seventh form; the later family's looks); each row that meets fmt, with fmt's text TOLD by the authors' own Lean function (tested against real Go, not proved from fmt's source: count such statements apart). THE CARD IS WHAT COUNTS. Prove the row's statement (the work); the ties are given (YthlpiipobcomfaaGreatDoorTie.lean); close each card by the builder's one call (the guide's Derived/Test/ToyasCard.lean, 'card_holds'). Laid BY PROGRAM, IN A SANDBOX (cutbox-door.mjs). By AI agents, Wed Nov 11 2026. No macro, syntax, notation, axiom, sorry.
-/
import Derived.Test.YthlpiipobcomfaaGreatDoorRows
import GoSem.ClaimSeven
namespace Go.Proofs.YthlpiipobcomfaaGreatDoor
namespace Rows

/-- THE TIED CARD OF 'headgatelaw30.QueueGathers'. -/
def queueGathersCard : Claim7 := { stood := { row := queueGathersRow, standIns := [], harness := (true, "8c9311146a5d49b4e4e5738f9cb6987e2b56571ff7a368c6f23803bcafbc9d98"), looks := false }, kinds := [], alts := [], laidByText := true, laidKinds := [.data, .data, .data, .data], laidTests := true, laidLooks := .later }
def QueueGathersCardSaid : Prop := Claim7.holds Tryz.pinned (.plain (OpenSpec.ofChange queueGathersSpec)) queueGathersCard

/-- THE TIED CARD OF 'headgatelaw30.QueueCuts'. -/
def queueCutsCard : Claim7 := { stood := { row := queueCutsRow, standIns := [], harness := (true, "8c9311146a5d49b4e4e5738f9cb6987e2b56571ff7a368c6f23803bcafbc9d98"), looks := false }, kinds := [], alts := [], laidByText := true, laidKinds := [.data, .data, .data, .data], laidTests := true, laidLooks := .later }
def QueueCutsCardSaid : Prop := Claim7.holds Tryz.pinned (.plain (OpenSpec.ofChange queueCutsSpec)) queueCutsCard

/-- THE TIED CARD OF 'headgatelaw30.QueueBegins'. -/
def queueBeginsCard : Claim7 := { stood := { row := queueBeginsRow, standIns := [], harness := (true, "8c9311146a5d49b4e4e5738f9cb6987e2b56571ff7a368c6f23803bcafbc9d98"), looks := false }, kinds := [], alts := [], laidByText := true, laidKinds := [.data, .data, .data, .data], laidTests := true, laidLooks := .later }
def QueueBeginsCardSaid : Prop := Claim7.holds Tryz.pinned (.plain (OpenSpec.ofChange queueBeginsSpec)) queueBeginsCard

/-- THE TIED CARD OF 'headgatelaw30.QueueReads'. -/
def queueReadsCard : Claim7 := { stood := { row := queueReadsRow, standIns := [], harness := (true, "8c9311146a5d49b4e4e5738f9cb6987e2b56571ff7a368c6f23803bcafbc9d98"), looks := false }, kinds := [], alts := [], laidByText := true, laidKinds := [.data, .data, .data, .data], laidTests := true, laidLooks := .later }
def QueueReadsCardSaid : Prop := Claim7.holds Tryz.pinned (.plain (OpenSpec.ofChange queueReadsSpec)) queueReadsCard

/-- THE TIED CARD OF 'headgatelaw30.QueueTalks'. -/
def queueTalksCard : Claim7 := { stood := { row := queueTalksRow, standIns := [], harness := (true, "8c9311146a5d49b4e4e5738f9cb6987e2b56571ff7a368c6f23803bcafbc9d98"), looks := false }, kinds := [], alts := [], laidByText := true, laidKinds := [.data, .data, .data, .data], laidTests := true, laidLooks := .later }
def QueueTalksCardSaid : Prop := Claim7.holds Tryz.pinned (.plain (OpenSpec.ofChange queueTalksSpec)) queueTalksCard

/-- THE TIED CARD OF 'headgatelaw30.QueueHolds'. -/
def queueHoldsCard : Claim7 := { stood := { row := queueHoldsRow, standIns := [], harness := (true, "8c9311146a5d49b4e4e5738f9cb6987e2b56571ff7a368c6f23803bcafbc9d98"), looks := false }, kinds := [], alts := [], laidByText := true, laidKinds := [.data, .data, .data, .data], laidTests := true, laidLooks := .later }
def QueueHoldsCardSaid : Prop := Claim7.holds Tryz.pinned (.plain (OpenSpec.ofChange queueHoldsSpec)) queueHoldsCard

/-- THE TIED CARD OF 'headgatelaw30.QueueNone'. -/
def queueNoneCard : Claim7 := { stood := { row := queueNoneRow, standIns := [], harness := (true, "8c9311146a5d49b4e4e5738f9cb6987e2b56571ff7a368c6f23803bcafbc9d98"), looks := false }, kinds := [], alts := [], laidByText := true, laidKinds := [.data, .data, .data, .data], laidTests := true, laidLooks := .later }
def QueueNoneCardSaid : Prop := Claim7.holds Tryz.pinned (.plain (OpenSpec.ofChange queueNoneSpec)) queueNoneCard

/-- THE SECOND FORM's CARD OF 'headgatelaw30.QueueGathers'. -/
def queueGathersUptoCard : Claim7 := { stood := { row := queueGathersUptoRow, standIns := [], harness := (true, "8c9311146a5d49b4e4e5738f9cb6987e2b56571ff7a368c6f23803bcafbc9d98"), looks := false }, kinds := [], alts := [], laidByText := true, laidKinds := [.data, .data, .data, .data], laidTests := true, laidLooks := .later }
def QueueGathersUptoCardSaid : Prop := Claim7.holds Tryz.pinned (.plain (OpenSpec.upto queueGathersSpec)) queueGathersUptoCard

/-- THE SECOND FORM's CARD OF 'headgatelaw30.QueueCuts'. -/
def queueCutsUptoCard : Claim7 := { stood := { row := queueCutsUptoRow, standIns := [], harness := (true, "8c9311146a5d49b4e4e5738f9cb6987e2b56571ff7a368c6f23803bcafbc9d98"), looks := false }, kinds := [], alts := [], laidByText := true, laidKinds := [.data, .data, .data, .data], laidTests := true, laidLooks := .later }
def QueueCutsUptoCardSaid : Prop := Claim7.holds Tryz.pinned (.plain (OpenSpec.upto queueCutsSpec)) queueCutsUptoCard

/-- THE SECOND FORM's CARD OF 'headgatelaw30.QueueBegins'. -/
def queueBeginsUptoCard : Claim7 := { stood := { row := queueBeginsUptoRow, standIns := [], harness := (true, "8c9311146a5d49b4e4e5738f9cb6987e2b56571ff7a368c6f23803bcafbc9d98"), looks := false }, kinds := [], alts := [], laidByText := true, laidKinds := [.data, .data, .data, .data], laidTests := true, laidLooks := .later }
def QueueBeginsUptoCardSaid : Prop := Claim7.holds Tryz.pinned (.plain (OpenSpec.upto queueBeginsSpec)) queueBeginsUptoCard

/-- THE SECOND FORM's CARD OF 'headgatelaw30.QueueReads'. -/
def queueReadsUptoCard : Claim7 := { stood := { row := queueReadsUptoRow, standIns := [], harness := (true, "8c9311146a5d49b4e4e5738f9cb6987e2b56571ff7a368c6f23803bcafbc9d98"), looks := false }, kinds := [], alts := [], laidByText := true, laidKinds := [.data, .data, .data, .data], laidTests := true, laidLooks := .later }
def QueueReadsUptoCardSaid : Prop := Claim7.holds Tryz.pinned (.plain (OpenSpec.upto queueReadsSpec)) queueReadsUptoCard

/-- THE SECOND FORM's CARD OF 'headgatelaw30.QueueTalks'. -/
def queueTalksUptoCard : Claim7 := { stood := { row := queueTalksUptoRow, standIns := [], harness := (true, "8c9311146a5d49b4e4e5738f9cb6987e2b56571ff7a368c6f23803bcafbc9d98"), looks := false }, kinds := [], alts := [], laidByText := true, laidKinds := [.data, .data, .data, .data], laidTests := true, laidLooks := .later }
def QueueTalksUptoCardSaid : Prop := Claim7.holds Tryz.pinned (.plain (OpenSpec.upto queueTalksSpec)) queueTalksUptoCard

/-- THE SECOND FORM's CARD OF 'headgatelaw30.QueueHolds'. -/
def queueHoldsUptoCard : Claim7 := { stood := { row := queueHoldsUptoRow, standIns := [], harness := (true, "8c9311146a5d49b4e4e5738f9cb6987e2b56571ff7a368c6f23803bcafbc9d98"), looks := false }, kinds := [], alts := [], laidByText := true, laidKinds := [.data, .data, .data, .data], laidTests := true, laidLooks := .later }
def QueueHoldsUptoCardSaid : Prop := Claim7.holds Tryz.pinned (.plain (OpenSpec.upto queueHoldsSpec)) queueHoldsUptoCard

/-- THE SECOND FORM's CARD OF 'headgatelaw30.QueueNone'. -/
def queueNoneUptoCard : Claim7 := { stood := { row := queueNoneUptoRow, standIns := [], harness := (true, "8c9311146a5d49b4e4e5738f9cb6987e2b56571ff7a368c6f23803bcafbc9d98"), looks := false }, kinds := [], alts := [], laidByText := true, laidKinds := [.data, .data, .data, .data], laidTests := true, laidLooks := .later }
def QueueNoneUptoCardSaid : Prop := Claim7.holds Tryz.pinned (.plain (OpenSpec.upto queueNoneSpec)) queueNoneUptoCard
end Rows
end Go.Proofs.YthlpiipobcomfaaGreatDoor
