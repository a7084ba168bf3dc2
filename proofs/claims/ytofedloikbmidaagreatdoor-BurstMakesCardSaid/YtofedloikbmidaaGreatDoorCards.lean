/-
  DERIVED. GIVEN WITH THE SEED: THE CARDS: each row of YtofedloikbmidaaGreatDoorRows.lean that lists a variable, with what it lists TIED to the program's text (the seventh form; the later family's looks); each row that meets fmt, with fmt's text TOLD by the authors' own Lean function (tested against real Go, not proved from fmt's source: count such statements apart). THE CARD IS WHAT COUNTS. Prove the row's statement (the work); the ties are given (YtofedloikbmidaaGreatDoorTie.lean); close each card by the builder's one call (the guide's Derived/Test/ToyasCard.lean, 'card_holds'). Laid BY PROGRAM, IN A SANDBOX (cutbox-door.mjs). By AI agents, Wed Nov 11 2026. No macro, syntax, notation, axiom, sorry.
-/
import Derived.Test.YtofedloikbmidaaGreatDoorRows
import GoSem.ClaimSeven
namespace Go.Proofs.YtofedloikbmidaaGreatDoor
namespace Rows

/-- THE TIED CARD OF 'clarionlaw19.BurstMakes'. -/
def burstMakesCard : Claim7 := { stood := { row := burstMakesRow, standIns := [], harness := (true, "d49d06eb900236d31eb0222fa63518ab1ea31114976552aeebe284ab67087edd"), looks := false }, kinds := [], alts := [], laidByText := true, laidKinds := [.data, .widerDeep, .widerDeep, .pinned], laidTests := true, laidLooks := .later }
def BurstMakesCardSaid : Prop := Claim7.holds Tryz.pinned (.plain (OpenSpec.ofChange burstMakesSpec)) burstMakesCard

/-- THE TIED CARD OF 'clarionlaw19.BurstStamps'. -/
def burstStampsCard : Claim7 := { stood := { row := burstStampsRow, standIns := [], harness := (true, "d49d06eb900236d31eb0222fa63518ab1ea31114976552aeebe284ab67087edd"), looks := false }, kinds := [], alts := [], laidByText := true, laidKinds := [.data, .widerDeep, .widerDeep, .pinned], laidTests := true, laidLooks := .later }
def BurstStampsCardSaid : Prop := Claim7.holds Tryz.pinned (.plain (OpenSpec.ofChange burstStampsSpec)) burstStampsCard

/-- THE TIED CARD OF 'clarionlaw19.BurstTakes'. -/
def burstTakesCard : Claim7 := { stood := { row := burstTakesRow, standIns := [], harness := (true, "d49d06eb900236d31eb0222fa63518ab1ea31114976552aeebe284ab67087edd"), looks := false }, kinds := [], alts := [], laidByText := true, laidKinds := [.data, .widerDeep, .widerDeep, .widerDeep, .pinned], laidTests := true, laidLooks := .later }
def BurstTakesCardSaid : Prop := Claim7.holds Tryz.pinned (.plain (OpenSpec.ofChange burstTakesSpec)) burstTakesCard

/-- THE TIED CARD OF 'clarionlaw19.BurstBack'. -/
def burstBackCard : Claim7 := { stood := { row := burstBackRow, standIns := [], harness := (true, "d49d06eb900236d31eb0222fa63518ab1ea31114976552aeebe284ab67087edd"), looks := false }, kinds := [], alts := [], laidByText := true, laidKinds := [.data, .widerDeep, .widerDeep, .widerDeep, .pinned], laidTests := true, laidLooks := .later }
def BurstBackCardSaid : Prop := Claim7.holds Tryz.pinned (.plain (OpenSpec.ofChange burstBackSpec)) burstBackCard

/-- THE TIED CARD OF 'clarionlaw19.BurstSafe'. -/
def burstSafeCard : Claim7 := { stood := { row := burstSafeRow, standIns := [], harness := (true, "d49d06eb900236d31eb0222fa63518ab1ea31114976552aeebe284ab67087edd"), looks := false }, kinds := [], alts := [], laidByText := true, laidKinds := [.data, .widerDeep, .widerDeep, .widerDeep, .pinned], laidTests := true, laidLooks := .later }
def BurstSafeCardSaid : Prop := Claim7.holds Tryz.pinned (.plain (OpenSpec.ofChange burstSafeSpec)) burstSafeCard

/-- THE TIED CARD OF 'clarionlaw19.BurstNil'. -/
def burstNilCard : Claim7 := { stood := { row := burstNilRow, standIns := [], harness := (true, "d49d06eb900236d31eb0222fa63518ab1ea31114976552aeebe284ab67087edd"), looks := false }, kinds := [], alts := [], laidByText := true, laidKinds := [.data, .widerDeep, .widerDeep, .widerDeep, .pinned], laidTests := true, laidLooks := .later }
def BurstNilCardSaid : Prop := Claim7.holds Tryz.pinned (.plain (OpenSpec.ofChange burstNilSpec)) burstNilCard

/-- THE TIED CARD OF 'clarionlaw19.BurstOrder'. -/
def burstOrderCard : Claim7 := { stood := { row := burstOrderRow, standIns := [], harness := (true, "d49d06eb900236d31eb0222fa63518ab1ea31114976552aeebe284ab67087edd"), looks := false }, kinds := [], alts := [], laidByText := true, laidKinds := [.data, .widerDeep, .widerDeep, .widerDeep, .pinned], laidTests := true, laidLooks := .later }
def BurstOrderCardSaid : Prop := Claim7.holds Tryz.pinned (.plain (OpenSpec.ofChange burstOrderSpec)) burstOrderCard

/-- THE TIED CARD OF 'clarionlaw20.SliceAgain'. -/
def sliceAgainCard : Claim7 := { stood := { row := sliceAgainRow, standIns := [], harness := (true, "d49d06eb900236d31eb0222fa63518ab1ea31114976552aeebe284ab67087edd"), looks := false }, kinds := [], alts := [], laidByText := true, laidKinds := [.widerDeep], laidTests := true, laidLooks := .later }
def SliceAgainCardSaid : Prop := Claim7.holds Tryz.pinned (.plain (OpenSpec.ofChange sliceAgainSpec)) sliceAgainCard

/-- THE TIED CARD OF 'clarionlaw20.SliceDeltas'. -/
def sliceDeltasCard : Claim7 := { stood := { row := sliceDeltasRow, standIns := [], harness := (true, "d49d06eb900236d31eb0222fa63518ab1ea31114976552aeebe284ab67087edd"), looks := false }, kinds := [], alts := [], laidByText := true, laidKinds := [.data, .widerDeep], laidTests := true, laidLooks := .later }
def SliceDeltasCardSaid : Prop := Claim7.holds Tryz.pinned (.plain (OpenSpec.ofChange sliceDeltasSpec)) sliceDeltasCard

/-- THE TIED CARD OF 'clarionlaw23.LinkNil'. -/
def linkNilCard : Claim7 := { stood := { row := linkNilRow, standIns := [], harness := (true, "d49d06eb900236d31eb0222fa63518ab1ea31114976552aeebe284ab67087edd"), looks := false }, kinds := [], alts := [], laidByText := true, laidKinds := [.data, .data, .widerDeep, .widerDeep, .widerDeep, .pinned], laidTests := true, laidLooks := .later }
def LinkNilCardSaid : Prop := Claim7.holds Tryz.pinned (.plain (OpenSpec.ofChange linkNilSpec)) linkNilCard

/-- THE TIED CARD OF 'clarionlaw23.LinkOffers'. -/
def linkOffersCard : Claim7 := { stood := { row := linkOffersRow, standIns := [], harness := (true, "d49d06eb900236d31eb0222fa63518ab1ea31114976552aeebe284ab67087edd"), looks := false }, kinds := [], alts := [], laidByText := true, laidKinds := [.data, .widerDeep, .widerDeep, .pinned], laidTests := true, laidLooks := .later }
def LinkOffersCardSaid : Prop := Claim7.holds Tryz.pinned (.plain (OpenSpec.ofChange linkOffersSpec)) linkOffersCard

/-- THE TIED CARD OF 'clarionlaw22.ReceiverNil'. -/
def receiverNilCard : Claim7 := { stood := { row := receiverNilRow, standIns := [], harness := (true, "d49d06eb900236d31eb0222fa63518ab1ea31114976552aeebe284ab67087edd"), looks := false }, kinds := [], alts := [], laidByText := true, laidKinds := [.data, .data, .widerDeep, .widerDeep, .widerDeep, .pinned], laidTests := true, laidLooks := .later }
def ReceiverNilCardSaid : Prop := Claim7.holds Tryz.pinned (.plain (OpenSpec.ofChange receiverNilSpec)) receiverNilCard

/-- THE SECOND FORM's CARD OF 'clarionlaw19.BurstMakes'. -/
def burstMakesUptoCard : Claim7 := { stood := { row := burstMakesUptoRow, standIns := [], harness := (true, "d49d06eb900236d31eb0222fa63518ab1ea31114976552aeebe284ab67087edd"), looks := false }, kinds := [], alts := [], laidByText := true, laidKinds := [.data, .widerDeep, .widerDeep, .pinned], laidTests := true, laidLooks := .later }
def BurstMakesUptoCardSaid : Prop := Claim7.holds Tryz.pinned (.plain (OpenSpec.upto burstMakesSpec)) burstMakesUptoCard

/-- THE SECOND FORM's CARD OF 'clarionlaw19.BurstStamps'. -/
def burstStampsUptoCard : Claim7 := { stood := { row := burstStampsUptoRow, standIns := [], harness := (true, "d49d06eb900236d31eb0222fa63518ab1ea31114976552aeebe284ab67087edd"), looks := false }, kinds := [], alts := [], laidByText := true, laidKinds := [.data, .widerDeep, .widerDeep, .pinned], laidTests := true, laidLooks := .later }
def BurstStampsUptoCardSaid : Prop := Claim7.holds Tryz.pinned (.plain (OpenSpec.upto burstStampsSpec)) burstStampsUptoCard

/-- THE SECOND FORM's CARD OF 'clarionlaw19.BurstTakes'. -/
def burstTakesUptoCard : Claim7 := { stood := { row := burstTakesUptoRow, standIns := [], harness := (true, "d49d06eb900236d31eb0222fa63518ab1ea31114976552aeebe284ab67087edd"), looks := false }, kinds := [], alts := [], laidByText := true, laidKinds := [.data, .widerDeep, .widerDeep, .widerDeep, .pinned], laidTests := true, laidLooks := .later }
def BurstTakesUptoCardSaid : Prop := Claim7.holds Tryz.pinned (.plain (OpenSpec.upto burstTakesSpec)) burstTakesUptoCard

/-- THE SECOND FORM's CARD OF 'clarionlaw19.BurstBack'. -/
def burstBackUptoCard : Claim7 := { stood := { row := burstBackUptoRow, standIns := [], harness := (true, "d49d06eb900236d31eb0222fa63518ab1ea31114976552aeebe284ab67087edd"), looks := false }, kinds := [], alts := [], laidByText := true, laidKinds := [.data, .widerDeep, .widerDeep, .widerDeep, .pinned], laidTests := true, laidLooks := .later }
def BurstBackUptoCardSaid : Prop := Claim7.holds Tryz.pinned (.plain (OpenSpec.upto burstBackSpec)) burstBackUptoCard

/-- THE SECOND FORM's CARD OF 'clarionlaw19.BurstSafe'. -/
def burstSafeUptoCard : Claim7 := { stood := { row := burstSafeUptoRow, standIns := [], harness := (true, "d49d06eb900236d31eb0222fa63518ab1ea31114976552aeebe284ab67087edd"), looks := false }, kinds := [], alts := [], laidByText := true, laidKinds := [.data, .widerDeep, .widerDeep, .widerDeep, .pinned], laidTests := true, laidLooks := .later }
def BurstSafeUptoCardSaid : Prop := Claim7.holds Tryz.pinned (.plain (OpenSpec.upto burstSafeSpec)) burstSafeUptoCard

/-- THE SECOND FORM's CARD OF 'clarionlaw19.BurstNil'. -/
def burstNilUptoCard : Claim7 := { stood := { row := burstNilUptoRow, standIns := [], harness := (true, "d49d06eb900236d31eb0222fa63518ab1ea31114976552aeebe284ab67087edd"), looks := false }, kinds := [], alts := [], laidByText := true, laidKinds := [.data, .widerDeep, .widerDeep, .widerDeep, .pinned], laidTests := true, laidLooks := .later }
def BurstNilUptoCardSaid : Prop := Claim7.holds Tryz.pinned (.plain (OpenSpec.upto burstNilSpec)) burstNilUptoCard

/-- THE SECOND FORM's CARD OF 'clarionlaw19.BurstOrder'. -/
def burstOrderUptoCard : Claim7 := { stood := { row := burstOrderUptoRow, standIns := [], harness := (true, "d49d06eb900236d31eb0222fa63518ab1ea31114976552aeebe284ab67087edd"), looks := false }, kinds := [], alts := [], laidByText := true, laidKinds := [.data, .widerDeep, .widerDeep, .widerDeep, .pinned], laidTests := true, laidLooks := .later }
def BurstOrderUptoCardSaid : Prop := Claim7.holds Tryz.pinned (.plain (OpenSpec.upto burstOrderSpec)) burstOrderUptoCard

/-- THE SECOND FORM's CARD OF 'clarionlaw20.SliceAgain'. -/
def sliceAgainUptoCard : Claim7 := { stood := { row := sliceAgainUptoRow, standIns := [], harness := (true, "d49d06eb900236d31eb0222fa63518ab1ea31114976552aeebe284ab67087edd"), looks := false }, kinds := [], alts := [], laidByText := true, laidKinds := [.widerDeep], laidTests := true, laidLooks := .later }
def SliceAgainUptoCardSaid : Prop := Claim7.holds Tryz.pinned (.plain (OpenSpec.upto sliceAgainSpec)) sliceAgainUptoCard

/-- THE SECOND FORM's CARD OF 'clarionlaw20.SliceDeltas'. -/
def sliceDeltasUptoCard : Claim7 := { stood := { row := sliceDeltasUptoRow, standIns := [], harness := (true, "d49d06eb900236d31eb0222fa63518ab1ea31114976552aeebe284ab67087edd"), looks := false }, kinds := [], alts := [], laidByText := true, laidKinds := [.data, .widerDeep], laidTests := true, laidLooks := .later }
def SliceDeltasUptoCardSaid : Prop := Claim7.holds Tryz.pinned (.plain (OpenSpec.upto sliceDeltasSpec)) sliceDeltasUptoCard

/-- THE SECOND FORM's CARD OF 'clarionlaw23.LinkNil'. -/
def linkNilUptoCard : Claim7 := { stood := { row := linkNilUptoRow, standIns := [], harness := (true, "d49d06eb900236d31eb0222fa63518ab1ea31114976552aeebe284ab67087edd"), looks := false }, kinds := [], alts := [], laidByText := true, laidKinds := [.data, .data, .widerDeep, .widerDeep, .widerDeep, .pinned], laidTests := true, laidLooks := .later }
def LinkNilUptoCardSaid : Prop := Claim7.holds Tryz.pinned (.plain (OpenSpec.upto linkNilSpec)) linkNilUptoCard

/-- THE SECOND FORM's CARD OF 'clarionlaw23.LinkOffers'. -/
def linkOffersUptoCard : Claim7 := { stood := { row := linkOffersUptoRow, standIns := [], harness := (true, "d49d06eb900236d31eb0222fa63518ab1ea31114976552aeebe284ab67087edd"), looks := false }, kinds := [], alts := [], laidByText := true, laidKinds := [.data, .widerDeep, .widerDeep, .pinned], laidTests := true, laidLooks := .later }
def LinkOffersUptoCardSaid : Prop := Claim7.holds Tryz.pinned (.plain (OpenSpec.upto linkOffersSpec)) linkOffersUptoCard

/-- THE SECOND FORM's CARD OF 'clarionlaw22.ReceiverNil'. -/
def receiverNilUptoCard : Claim7 := { stood := { row := receiverNilUptoRow, standIns := [], harness := (true, "d49d06eb900236d31eb0222fa63518ab1ea31114976552aeebe284ab67087edd"), looks := false }, kinds := [], alts := [], laidByText := true, laidKinds := [.data, .data, .widerDeep, .widerDeep, .widerDeep, .pinned], laidTests := true, laidLooks := .later }
def ReceiverNilUptoCardSaid : Prop := Claim7.holds Tryz.pinned (.plain (OpenSpec.upto receiverNilSpec)) receiverNilUptoCard
end Rows
end Go.Proofs.YtofedloikbmidaaGreatDoor
