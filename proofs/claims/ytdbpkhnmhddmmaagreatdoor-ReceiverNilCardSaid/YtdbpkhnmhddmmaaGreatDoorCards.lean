/-
  DERIVED. GIVEN WITH THE SEED: THE CARDS: each row of YtdbpkhnmhddmmaaGreatDoorRows.lean that lists a variable, with what it lists TIED to the program's text (the seventh form; the later family's looks); each row that meets fmt, with fmt's text TOLD by the authors' own Lean function (tested against real Go, not proved from fmt's source: count such statements apart). THE CARD IS WHAT COUNTS. Prove the row's statement (the work); the ties are given (YtdbpkhnmhddmmaaGreatDoorTie.lean); close each card by the builder's one call (the guide's Derived/Test/ToyasCard.lean, 'card_holds'). Laid BY PROGRAM, IN A SANDBOX (cutbox-door.mjs). By AI agents, Wed Nov 11 2026. No macro, syntax, notation, axiom, sorry.
-/
import Derived.Test.YtdbpkhnmhddmmaaGreatDoorRows
import GoSem.ClaimSeven
namespace Go.Proofs.YtdbpkhnmhddmmaaGreatDoor
namespace Rows

/-- THE TIED CARD OF 'clarionlaw22.ReceiverPlays'. -/
def receiverPlaysCard : Claim7 := { stood := { row := receiverPlaysRow, standIns := [], harness := (true, "871982d753f9ae0acdd438b27b70fcb2535ade961e4f2401d2346fad7f0d29a4"), looks := false }, kinds := [], alts := [], laidByText := true, laidKinds := [.data, .data, .widerDeep, .widerDeep, .widerDeep, .pinned], laidTests := true, laidLooks := .later }
def ReceiverPlaysCardSaid : Prop := Claim7.holds Tryz.pinned (.plain (OpenSpec.ofChange receiverPlaysSpec)) receiverPlaysCard

/-- THE TIED CARD OF 'clarionlaw22.ReceiverAny'. -/
def receiverAnyCard : Claim7 := { stood := { row := receiverAnyRow, standIns := [], harness := (true, "871982d753f9ae0acdd438b27b70fcb2535ade961e4f2401d2346fad7f0d29a4"), looks := false }, kinds := [], alts := [], laidByText := true, laidKinds := [.data, .data, .widerDeep, .widerDeep, .widerDeep, .pinned], laidTests := true, laidLooks := .later }
def ReceiverAnyCardSaid : Prop := Claim7.holds Tryz.pinned (.plain (OpenSpec.ofChange receiverAnySpec)) receiverAnyCard

/-- THE TIED CARD OF 'clarionlaw22.ReceiverNil'. -/
def receiverNilCard : Claim7 := { stood := { row := receiverNilRow, standIns := [], harness := (true, "871982d753f9ae0acdd438b27b70fcb2535ade961e4f2401d2346fad7f0d29a4"), looks := false }, kinds := [], alts := [], laidByText := true, laidKinds := [.data, .data, .widerDeep, .widerDeep, .widerDeep, .pinned], laidTests := true, laidLooks := .later }
def ReceiverNilCardSaid : Prop := Claim7.holds Tryz.pinned (.plain (OpenSpec.ofChange receiverNilSpec)) receiverNilCard

/-- THE TIED CARD OF 'clarionlaw22.ReceiverSleeps'. -/
def receiverSleepsCard : Claim7 := { stood := { row := receiverSleepsRow, standIns := [], harness := (true, "871982d753f9ae0acdd438b27b70fcb2535ade961e4f2401d2346fad7f0d29a4"), looks := false }, kinds := [], alts := [], laidByText := true, laidKinds := [.data, .data, .widerDeep, .widerDeep, .widerDeep, .pinned], laidTests := true, laidLooks := .later }
def ReceiverSleepsCardSaid : Prop := Claim7.holds Tryz.pinned (.plain (OpenSpec.ofChange receiverSleepsSpec)) receiverSleepsCard

/-- THE TIED CARD OF 'clarionlaw22.ReceiverFrames'. -/
def receiverFramesCard : Claim7 := { stood := { row := receiverFramesRow, standIns := [], harness := (true, "871982d753f9ae0acdd438b27b70fcb2535ade961e4f2401d2346fad7f0d29a4"), looks := false }, kinds := [], alts := [], laidByText := true, laidKinds := [.data, .data, .widerDeep, .widerDeep, .widerDeep, .pinned], laidTests := true, laidLooks := .later }
def ReceiverFramesCardSaid : Prop := Claim7.holds Tryz.pinned (.plain (OpenSpec.ofChange receiverFramesSpec)) receiverFramesCard

/-- THE SECOND FORM's CARD OF 'clarionlaw22.ReceiverPlays'. -/
def receiverPlaysUptoCard : Claim7 := { stood := { row := receiverPlaysUptoRow, standIns := [], harness := (true, "871982d753f9ae0acdd438b27b70fcb2535ade961e4f2401d2346fad7f0d29a4"), looks := false }, kinds := [], alts := [], laidByText := true, laidKinds := [.data, .data, .widerDeep, .widerDeep, .widerDeep, .pinned], laidTests := true, laidLooks := .later }
def ReceiverPlaysUptoCardSaid : Prop := Claim7.holds Tryz.pinned (.plain (OpenSpec.upto receiverPlaysSpec)) receiverPlaysUptoCard

/-- THE SECOND FORM's CARD OF 'clarionlaw22.ReceiverAny'. -/
def receiverAnyUptoCard : Claim7 := { stood := { row := receiverAnyUptoRow, standIns := [], harness := (true, "871982d753f9ae0acdd438b27b70fcb2535ade961e4f2401d2346fad7f0d29a4"), looks := false }, kinds := [], alts := [], laidByText := true, laidKinds := [.data, .data, .widerDeep, .widerDeep, .widerDeep, .pinned], laidTests := true, laidLooks := .later }
def ReceiverAnyUptoCardSaid : Prop := Claim7.holds Tryz.pinned (.plain (OpenSpec.upto receiverAnySpec)) receiverAnyUptoCard

/-- THE SECOND FORM's CARD OF 'clarionlaw22.ReceiverNil'. -/
def receiverNilUptoCard : Claim7 := { stood := { row := receiverNilUptoRow, standIns := [], harness := (true, "871982d753f9ae0acdd438b27b70fcb2535ade961e4f2401d2346fad7f0d29a4"), looks := false }, kinds := [], alts := [], laidByText := true, laidKinds := [.data, .data, .widerDeep, .widerDeep, .widerDeep, .pinned], laidTests := true, laidLooks := .later }
def ReceiverNilUptoCardSaid : Prop := Claim7.holds Tryz.pinned (.plain (OpenSpec.upto receiverNilSpec)) receiverNilUptoCard

/-- THE SECOND FORM's CARD OF 'clarionlaw22.ReceiverSleeps'. -/
def receiverSleepsUptoCard : Claim7 := { stood := { row := receiverSleepsUptoRow, standIns := [], harness := (true, "871982d753f9ae0acdd438b27b70fcb2535ade961e4f2401d2346fad7f0d29a4"), looks := false }, kinds := [], alts := [], laidByText := true, laidKinds := [.data, .data, .widerDeep, .widerDeep, .widerDeep, .pinned], laidTests := true, laidLooks := .later }
def ReceiverSleepsUptoCardSaid : Prop := Claim7.holds Tryz.pinned (.plain (OpenSpec.upto receiverSleepsSpec)) receiverSleepsUptoCard

/-- THE SECOND FORM's CARD OF 'clarionlaw22.ReceiverFrames'. -/
def receiverFramesUptoCard : Claim7 := { stood := { row := receiverFramesUptoRow, standIns := [], harness := (true, "871982d753f9ae0acdd438b27b70fcb2535ade961e4f2401d2346fad7f0d29a4"), looks := false }, kinds := [], alts := [], laidByText := true, laidKinds := [.data, .data, .widerDeep, .widerDeep, .widerDeep, .pinned], laidTests := true, laidLooks := .later }
def ReceiverFramesUptoCardSaid : Prop := Claim7.holds Tryz.pinned (.plain (OpenSpec.upto receiverFramesSpec)) receiverFramesUptoCard
end Rows
end Go.Proofs.YtdbpkhnmhddmmaaGreatDoor
