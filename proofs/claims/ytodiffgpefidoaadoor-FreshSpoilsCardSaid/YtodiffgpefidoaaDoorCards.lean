/-
  DERIVED. GIVEN WITH THE SEED: THE CARDS: each row of YtodiffgpefidoaaDoorRows.lean that lists a variable, with what it lists TIED to the program's text (the seventh form; the later family's looks); each row that meets fmt, with fmt's text TOLD by the authors' own Lean function (tested against real Go, not proved from fmt's source: count such statements apart). THE CARD IS WHAT COUNTS. Prove the row's statement (the work); the ties are given (YtodiffgpefidoaaDoorTie.lean); close each card by the builder's one call (the guide's Derived/Test/ToyasCard.lean, 'card_holds'). Laid BY PROGRAM, IN A SANDBOX (cutbox-door.mjs). By AI agents, Wed Nov 11 2026. No macro, syntax, notation, axiom, sorry.
-/
import Derived.Test.YtodiffgpefidoaaDoorRows
import GoSem.ClaimSeven
namespace Go.Proofs.YtodiffgpefidoaaDoor
namespace Rows

/-- THE TIED CARD OF 'letterlocklaw11.FreshCovers'. -/
def freshCoversCard : Claim7 := { stood := { row := freshCoversRow, standIns := [], harness := (true, "0b9fa3feef8bb9d3a91bcf6595a6d7c5cb33ae0f6d04d6237eb2388932225a01"), looks := true }, kinds := [], alts := [], laidByText := true, laidKinds := [.data, .pinned], laidTests := true, laidLooks := .later }
def FreshCoversCardSaid : Prop := Claim7.holds Tryd.pinned (.plain (OpenSpec.ofChange freshCoversSpec)) freshCoversCard

/-- THE TIED CARD OF 'letterlocklaw11.FreshOwners'. -/
def freshOwnersCard : Claim7 := { stood := { row := freshOwnersRow, standIns := [], harness := (true, "0b9fa3feef8bb9d3a91bcf6595a6d7c5cb33ae0f6d04d6237eb2388932225a01"), looks := true }, kinds := [], alts := [], laidByText := true, laidKinds := [.data, .pinned], laidTests := true, laidLooks := .later }
def FreshOwnersCardSaid : Prop := Claim7.holds Tryd.pinned (.plain (OpenSpec.ofChange freshOwnersSpec)) freshOwnersCard

/-- THE TIED CARD OF 'letterlocklaw11.FreshSays'. -/
def freshSaysCard : Claim7 := { stood := { row := freshSaysRow, standIns := [], harness := (true, "0b9fa3feef8bb9d3a91bcf6595a6d7c5cb33ae0f6d04d6237eb2388932225a01"), looks := true }, kinds := [], alts := [], laidByText := true, laidKinds := [.data, .pinned], laidTests := true, laidLooks := .later }
def FreshSaysCardSaid : Prop := Claim7.holds Tryd.pinned (.plain (OpenSpec.ofChange freshSaysSpec)) freshSaysCard

/-- THE TIED CARD OF 'letterlocklaw11.FreshChecks'. -/
def freshChecksCard : Claim7 := { stood := { row := freshChecksRow, standIns := [], harness := (true, "0b9fa3feef8bb9d3a91bcf6595a6d7c5cb33ae0f6d04d6237eb2388932225a01"), looks := true }, kinds := [], alts := [], laidByText := true, laidKinds := [.data, .pinned], laidTests := true, laidLooks := .later }
def FreshChecksCardSaid : Prop := Claim7.holds Tryd.pinned (.plain (OpenSpec.ofChange freshChecksSpec)) freshChecksCard

/-- THE TIED CARD OF 'letterlocklaw11.FreshSpoils'. -/
def freshSpoilsCard : Claim7 := { stood := { row := freshSpoilsRow, standIns := [], harness := (true, "0b9fa3feef8bb9d3a91bcf6595a6d7c5cb33ae0f6d04d6237eb2388932225a01"), looks := true }, kinds := [], alts := [], laidByText := true, laidKinds := [.data, .pinned], laidTests := true, laidLooks := .later }
def FreshSpoilsCardSaid : Prop := Claim7.holds Tryd.pinned (.plain (OpenSpec.ofChange freshSpoilsSpec)) freshSpoilsCard

/-- THE SECOND FORM's CARD OF 'letterlocklaw11.FreshCovers'. -/
def freshCoversUptoCard : Claim7 := { stood := { row := freshCoversUptoRow, standIns := [], harness := (true, "0b9fa3feef8bb9d3a91bcf6595a6d7c5cb33ae0f6d04d6237eb2388932225a01"), looks := true }, kinds := [], alts := [], laidByText := true, laidKinds := [.data, .pinned], laidTests := true, laidLooks := .later }
def FreshCoversUptoCardSaid : Prop := Claim7.holds Tryd.pinned (.plain (OpenSpec.upto freshCoversSpec)) freshCoversUptoCard

/-- THE SECOND FORM's CARD OF 'letterlocklaw11.FreshOwners'. -/
def freshOwnersUptoCard : Claim7 := { stood := { row := freshOwnersUptoRow, standIns := [], harness := (true, "0b9fa3feef8bb9d3a91bcf6595a6d7c5cb33ae0f6d04d6237eb2388932225a01"), looks := true }, kinds := [], alts := [], laidByText := true, laidKinds := [.data, .pinned], laidTests := true, laidLooks := .later }
def FreshOwnersUptoCardSaid : Prop := Claim7.holds Tryd.pinned (.plain (OpenSpec.upto freshOwnersSpec)) freshOwnersUptoCard

/-- THE SECOND FORM's CARD OF 'letterlocklaw11.FreshSays'. -/
def freshSaysUptoCard : Claim7 := { stood := { row := freshSaysUptoRow, standIns := [], harness := (true, "0b9fa3feef8bb9d3a91bcf6595a6d7c5cb33ae0f6d04d6237eb2388932225a01"), looks := true }, kinds := [], alts := [], laidByText := true, laidKinds := [.data, .pinned], laidTests := true, laidLooks := .later }
def FreshSaysUptoCardSaid : Prop := Claim7.holds Tryd.pinned (.plain (OpenSpec.upto freshSaysSpec)) freshSaysUptoCard

/-- THE SECOND FORM's CARD OF 'letterlocklaw11.FreshChecks'. -/
def freshChecksUptoCard : Claim7 := { stood := { row := freshChecksUptoRow, standIns := [], harness := (true, "0b9fa3feef8bb9d3a91bcf6595a6d7c5cb33ae0f6d04d6237eb2388932225a01"), looks := true }, kinds := [], alts := [], laidByText := true, laidKinds := [.data, .pinned], laidTests := true, laidLooks := .later }
def FreshChecksUptoCardSaid : Prop := Claim7.holds Tryd.pinned (.plain (OpenSpec.upto freshChecksSpec)) freshChecksUptoCard

/-- THE SECOND FORM's CARD OF 'letterlocklaw11.FreshSpoils'. -/
def freshSpoilsUptoCard : Claim7 := { stood := { row := freshSpoilsUptoRow, standIns := [], harness := (true, "0b9fa3feef8bb9d3a91bcf6595a6d7c5cb33ae0f6d04d6237eb2388932225a01"), looks := true }, kinds := [], alts := [], laidByText := true, laidKinds := [.data, .pinned], laidTests := true, laidLooks := .later }
def FreshSpoilsUptoCardSaid : Prop := Claim7.holds Tryd.pinned (.plain (OpenSpec.upto freshSpoilsSpec)) freshSpoilsUptoCard
end Rows
end Go.Proofs.YtodiffgpefidoaaDoor
