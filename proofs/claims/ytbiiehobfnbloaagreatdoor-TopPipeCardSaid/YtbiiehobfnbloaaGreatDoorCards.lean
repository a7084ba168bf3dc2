/-
  DERIVED. GIVEN WITH THE SEED: THE CARDS: each row of YtbiiehobfnbloaaGreatDoorRows.lean that lists a variable, with what it lists TIED to the program's text (the seventh form; the later family's looks); each row that meets fmt, with fmt's text TOLD by the authors' own Lean function (tested against real Go, not proved from fmt's source: count such statements apart). THE CARD IS WHAT COUNTS. Prove the row's statement (the work); the ties are given (YtbiiehobfnbloaaGreatDoorTie.lean); close each card by the builder's one call (the guide's Derived/Test/ToyasCard.lean, 'card_holds'). Laid BY PROGRAM, IN A SANDBOX (cutbox-door.mjs). By AI agents, Wed Nov 11 2026. No macro, syntax, notation, axiom, sorry.
-/
import Derived.Test.YtbiiehobfnbloaaGreatDoorRows
import GoSem.ClaimSeven
namespace Go.Proofs.YtbiiehobfnbloaaGreatDoor
namespace Rows

/-- THE TIED CARD OF 'clariontop.TopPipe'. -/
def topPipeCard : Claim7 := { stood := { row := topPipeRow, standIns := [], harness := (true, "41698598348f0e0fb84d38da3db37922ed145071bcf9aae8b4493491f4598aee"), looks := false }, kinds := [], alts := [], laidByText := true, laidKinds := [.data, .data, .widerDeep, .widerDeep, .widerDeep, .pinned], laidTests := true, laidLooks := .later }
def TopPipeCardSaid : Prop := Claim7.holds Tryz.pinned (.plain (OpenSpec.ofChange topPipeSpec)) topPipeCard

/-- THE TIED CARD OF 'clarionlaw23.LinkOffers'. -/
def linkOffersCard : Claim7 := { stood := { row := linkOffersRow, standIns := [], harness := (true, "41698598348f0e0fb84d38da3db37922ed145071bcf9aae8b4493491f4598aee"), looks := false }, kinds := [], alts := [], laidByText := true, laidKinds := [.data, .widerDeep, .widerDeep, .pinned], laidTests := true, laidLooks := .later }
def LinkOffersCardSaid : Prop := Claim7.holds Tryz.pinned (.plain (OpenSpec.ofChange linkOffersSpec)) linkOffersCard

/-- THE TIED CARD OF 'clarionlaw22.ReceiverNil'. -/
def receiverNilCard : Claim7 := { stood := { row := receiverNilRow, standIns := [], harness := (true, "41698598348f0e0fb84d38da3db37922ed145071bcf9aae8b4493491f4598aee"), looks := false }, kinds := [], alts := [], laidByText := true, laidKinds := [.data, .data, .widerDeep, .widerDeep, .widerDeep, .pinned], laidTests := true, laidLooks := .later }
def ReceiverNilCardSaid : Prop := Claim7.holds Tryz.pinned (.plain (OpenSpec.ofChange receiverNilSpec)) receiverNilCard

/-- THE TIED CARD OF 'clarionlaw22.ReceiverSleeps'. -/
def receiverSleepsCard : Claim7 := { stood := { row := receiverSleepsRow, standIns := [], harness := (true, "41698598348f0e0fb84d38da3db37922ed145071bcf9aae8b4493491f4598aee"), looks := false }, kinds := [], alts := [], laidByText := true, laidKinds := [.data, .data, .widerDeep, .widerDeep, .widerDeep, .pinned], laidTests := true, laidLooks := .later }
def ReceiverSleepsCardSaid : Prop := Claim7.holds Tryz.pinned (.plain (OpenSpec.ofChange receiverSleepsSpec)) receiverSleepsCard

/-- THE TIED CARD OF 'clarionlaw22.ReceiverFrames'. -/
def receiverFramesCard : Claim7 := { stood := { row := receiverFramesRow, standIns := [], harness := (true, "41698598348f0e0fb84d38da3db37922ed145071bcf9aae8b4493491f4598aee"), looks := false }, kinds := [], alts := [], laidByText := true, laidKinds := [.data, .data, .widerDeep, .widerDeep, .widerDeep, .pinned], laidTests := true, laidLooks := .later }
def ReceiverFramesCardSaid : Prop := Claim7.holds Tryz.pinned (.plain (OpenSpec.ofChange receiverFramesSpec)) receiverFramesCard

/-- THE TIED CARD OF 'clarionlaw23.LinkNil'. -/
def linkNilCard : Claim7 := { stood := { row := linkNilRow, standIns := [], harness := (true, "41698598348f0e0fb84d38da3db37922ed145071bcf9aae8b4493491f4598aee"), looks := false }, kinds := [], alts := [], laidByText := true, laidKinds := [.data, .data, .widerDeep, .widerDeep, .widerDeep, .pinned], laidTests := true, laidLooks := .later }
def LinkNilCardSaid : Prop := Claim7.holds Tryz.pinned (.plain (OpenSpec.ofChange linkNilSpec)) linkNilCard

/-- THE SECOND FORM's CARD OF 'clariontop.TopPipe'. -/
def topPipeUptoCard : Claim7 := { stood := { row := topPipeUptoRow, standIns := [], harness := (true, "41698598348f0e0fb84d38da3db37922ed145071bcf9aae8b4493491f4598aee"), looks := false }, kinds := [], alts := [], laidByText := true, laidKinds := [.data, .data, .widerDeep, .widerDeep, .widerDeep, .pinned], laidTests := true, laidLooks := .later }
def TopPipeUptoCardSaid : Prop := Claim7.holds Tryz.pinned (.plain (OpenSpec.upto topPipeSpec)) topPipeUptoCard

/-- THE SECOND FORM's CARD OF 'clarionlaw23.LinkOffers'. -/
def linkOffersUptoCard : Claim7 := { stood := { row := linkOffersUptoRow, standIns := [], harness := (true, "41698598348f0e0fb84d38da3db37922ed145071bcf9aae8b4493491f4598aee"), looks := false }, kinds := [], alts := [], laidByText := true, laidKinds := [.data, .widerDeep, .widerDeep, .pinned], laidTests := true, laidLooks := .later }
def LinkOffersUptoCardSaid : Prop := Claim7.holds Tryz.pinned (.plain (OpenSpec.upto linkOffersSpec)) linkOffersUptoCard

/-- THE SECOND FORM's CARD OF 'clarionlaw22.ReceiverNil'. -/
def receiverNilUptoCard : Claim7 := { stood := { row := receiverNilUptoRow, standIns := [], harness := (true, "41698598348f0e0fb84d38da3db37922ed145071bcf9aae8b4493491f4598aee"), looks := false }, kinds := [], alts := [], laidByText := true, laidKinds := [.data, .data, .widerDeep, .widerDeep, .widerDeep, .pinned], laidTests := true, laidLooks := .later }
def ReceiverNilUptoCardSaid : Prop := Claim7.holds Tryz.pinned (.plain (OpenSpec.upto receiverNilSpec)) receiverNilUptoCard

/-- THE SECOND FORM's CARD OF 'clarionlaw22.ReceiverSleeps'. -/
def receiverSleepsUptoCard : Claim7 := { stood := { row := receiverSleepsUptoRow, standIns := [], harness := (true, "41698598348f0e0fb84d38da3db37922ed145071bcf9aae8b4493491f4598aee"), looks := false }, kinds := [], alts := [], laidByText := true, laidKinds := [.data, .data, .widerDeep, .widerDeep, .widerDeep, .pinned], laidTests := true, laidLooks := .later }
def ReceiverSleepsUptoCardSaid : Prop := Claim7.holds Tryz.pinned (.plain (OpenSpec.upto receiverSleepsSpec)) receiverSleepsUptoCard

/-- THE SECOND FORM's CARD OF 'clarionlaw22.ReceiverFrames'. -/
def receiverFramesUptoCard : Claim7 := { stood := { row := receiverFramesUptoRow, standIns := [], harness := (true, "41698598348f0e0fb84d38da3db37922ed145071bcf9aae8b4493491f4598aee"), looks := false }, kinds := [], alts := [], laidByText := true, laidKinds := [.data, .data, .widerDeep, .widerDeep, .widerDeep, .pinned], laidTests := true, laidLooks := .later }
def ReceiverFramesUptoCardSaid : Prop := Claim7.holds Tryz.pinned (.plain (OpenSpec.upto receiverFramesSpec)) receiverFramesUptoCard

/-- THE SECOND FORM's CARD OF 'clarionlaw23.LinkNil'. -/
def linkNilUptoCard : Claim7 := { stood := { row := linkNilUptoRow, standIns := [], harness := (true, "41698598348f0e0fb84d38da3db37922ed145071bcf9aae8b4493491f4598aee"), looks := false }, kinds := [], alts := [], laidByText := true, laidKinds := [.data, .data, .widerDeep, .widerDeep, .widerDeep, .pinned], laidTests := true, laidLooks := .later }
def LinkNilUptoCardSaid : Prop := Claim7.holds Tryz.pinned (.plain (OpenSpec.upto linkNilSpec)) linkNilUptoCard
end Rows
end Go.Proofs.YtbiiehobfnbloaaGreatDoor
