/-
  DERIVED. GIVEN WITH THE SEED: THE CARDS: each row of YtodiffgpefidoaaGreatDoorRows.lean that lists a variable, with what it lists TIED to the program's text (the seventh form; the later family's looks); each row that meets fmt, with fmt's text TOLD by the authors' own Lean function (tested against real Go, not proved from fmt's source: count such statements apart). THE CARD IS WHAT COUNTS. Prove the row's statement (the work); the ties are given (YtodiffgpefidoaaGreatDoorTie.lean); close each card by the builder's one call (the guide's Derived/Test/ToyasCard.lean, 'card_holds'). Laid BY PROGRAM, IN A SANDBOX (cutbox-door.mjs). By AI agents, Wed Nov 11 2026. No macro, syntax, notation, axiom, sorry.
-/
import Derived.Test.YtodiffgpefidoaaGreatDoorRows
import GoSem.ClaimSeven
namespace Go.Proofs.YtodiffgpefidoaaGreatDoor
namespace Rows

/-- THE TIED CARD OF 'letterlocklaw11.FreshTells'. -/
def freshTellsCard : Claim7 := { stood := { row := freshTellsRow, standIns := [], harness := (true, "b7afc1d8f7d9b7eb496cdb1f75c522a43e5ac440c1da968b051a99e53567b8e9"), looks := true }, kinds := [], alts := [], laidByText := true, laidKinds := [.data, .pinned], laidTests := true, laidLooks := .later }
def FreshTellsCardSaid : Prop := Claim7.holds Tryz.pinned (.plain (OpenSpec.ofChange freshTellsSpec)) freshTellsCard

/-- THE SECOND FORM's CARD OF 'letterlocklaw11.FreshTells'. -/
def freshTellsUptoCard : Claim7 := { stood := { row := freshTellsUptoRow, standIns := [], harness := (true, "b7afc1d8f7d9b7eb496cdb1f75c522a43e5ac440c1da968b051a99e53567b8e9"), looks := true }, kinds := [], alts := [], laidByText := true, laidKinds := [.data, .pinned], laidTests := true, laidLooks := .later }
def FreshTellsUptoCardSaid : Prop := Claim7.holds Tryz.pinned (.plain (OpenSpec.upto freshTellsSpec)) freshTellsUptoCard
end Rows
end Go.Proofs.YtodiffgpefidoaaGreatDoor
