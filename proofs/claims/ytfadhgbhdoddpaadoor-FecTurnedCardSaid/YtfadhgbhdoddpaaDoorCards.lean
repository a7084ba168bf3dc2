/-
  DERIVED. GIVEN WITH THE SEED: THE CARDS: each row of YtfadhgbhdoddpaaDoorRows.lean that lists a variable, with what it lists TIED to the program's text (the seventh form; the later family's looks); each row that meets fmt, with fmt's text TOLD by the authors' own Lean function (tested against real Go, not proved from fmt's source: count such statements apart). THE CARD IS WHAT COUNTS. Prove the row's statement (the work); the ties are given (YtfadhgbhdoddpaaDoorTie.lean); close each card by the builder's one call (the guide's Derived/Test/ToyasCard.lean, 'card_holds'). Laid BY PROGRAM, IN A SANDBOX (cutbox-door.mjs). By AI agents, Wed Nov 11 2026. No macro, syntax, notation, axiom, sorry.
-/
import Derived.Test.YtfadhgbhdoddpaaDoorRows
import GoSem.ClaimSeven
namespace Go.Proofs.YtfadhgbhdoddpaaDoor
namespace Rows

/-- THE TIED CARD OF 'clarionlaw11.FecApart'. -/
def fecApartCard : Claim7 := { stood := { row := fecApartRow, standIns := [], harness := (true, "3100ff59ca0ede79e1a6bb31d1e21688621158169695f72397a620bf92f62cf0"), looks := false }, kinds := [], alts := [], laidByText := true, laidKinds := [.widerDeep], laidTests := true, laidLooks := .later }
def FecApartCardSaid : Prop := Claim7.holds Tryd.pinned (.plain (OpenSpec.ofChange fecApartSpec)) fecApartCard

/-- THE TIED CARD OF 'clarionlaw11.FecWrites'. -/
def fecWritesCard : Claim7 := { stood := { row := fecWritesRow, standIns := [], harness := (true, "3100ff59ca0ede79e1a6bb31d1e21688621158169695f72397a620bf92f62cf0"), looks := false }, kinds := [], alts := [], laidByText := true, laidKinds := [.widerDeep], laidTests := true, laidLooks := .later }
def FecWritesCardSaid : Prop := Claim7.holds Tryd.pinned (.plain (OpenSpec.ofChange fecWritesSpec)) fecWritesCard

/-- THE TIED CARD OF 'clarionlaw11.FecBack'. -/
def fecBackCard : Claim7 := { stood := { row := fecBackRow, standIns := [], harness := (true, "3100ff59ca0ede79e1a6bb31d1e21688621158169695f72397a620bf92f62cf0"), looks := false }, kinds := [], alts := [], laidByText := true, laidKinds := [.widerDeep], laidTests := true, laidLooks := .later }
def FecBackCardSaid : Prop := Claim7.holds Tryd.pinned (.plain (OpenSpec.ofChange fecBackSpec)) fecBackCard

/-- THE TIED CARD OF 'clarionlaw11.FecTurned'. -/
def fecTurnedCard : Claim7 := { stood := { row := fecTurnedRow, standIns := [], harness := (true, "3100ff59ca0ede79e1a6bb31d1e21688621158169695f72397a620bf92f62cf0"), looks := false }, kinds := [], alts := [], laidByText := true, laidKinds := [.widerDeep], laidTests := true, laidLooks := .later }
def FecTurnedCardSaid : Prop := Claim7.holds Tryd.pinned (.plain (OpenSpec.ofChange fecTurnedSpec)) fecTurnedCard

/-- THE TIED CARD OF 'clarionlaw11.FecReads'. -/
def fecReadsCard : Claim7 := { stood := { row := fecReadsRow, standIns := [], harness := (true, "3100ff59ca0ede79e1a6bb31d1e21688621158169695f72397a620bf92f62cf0"), looks := false }, kinds := [], alts := [], laidByText := true, laidKinds := [.widerDeep], laidTests := true, laidLooks := .later }
def FecReadsCardSaid : Prop := Claim7.holds Tryd.pinned (.plain (OpenSpec.ofChange fecReadsSpec)) fecReadsCard

/-- THE SECOND FORM's CARD OF 'clarionlaw11.FecApart'. -/
def fecApartUptoCard : Claim7 := { stood := { row := fecApartUptoRow, standIns := [], harness := (true, "3100ff59ca0ede79e1a6bb31d1e21688621158169695f72397a620bf92f62cf0"), looks := false }, kinds := [], alts := [], laidByText := true, laidKinds := [.widerDeep], laidTests := true, laidLooks := .later }
def FecApartUptoCardSaid : Prop := Claim7.holds Tryd.pinned (.plain (OpenSpec.upto fecApartSpec)) fecApartUptoCard

/-- THE SECOND FORM's CARD OF 'clarionlaw11.FecWrites'. -/
def fecWritesUptoCard : Claim7 := { stood := { row := fecWritesUptoRow, standIns := [], harness := (true, "3100ff59ca0ede79e1a6bb31d1e21688621158169695f72397a620bf92f62cf0"), looks := false }, kinds := [], alts := [], laidByText := true, laidKinds := [.widerDeep], laidTests := true, laidLooks := .later }
def FecWritesUptoCardSaid : Prop := Claim7.holds Tryd.pinned (.plain (OpenSpec.upto fecWritesSpec)) fecWritesUptoCard

/-- THE SECOND FORM's CARD OF 'clarionlaw11.FecBack'. -/
def fecBackUptoCard : Claim7 := { stood := { row := fecBackUptoRow, standIns := [], harness := (true, "3100ff59ca0ede79e1a6bb31d1e21688621158169695f72397a620bf92f62cf0"), looks := false }, kinds := [], alts := [], laidByText := true, laidKinds := [.widerDeep], laidTests := true, laidLooks := .later }
def FecBackUptoCardSaid : Prop := Claim7.holds Tryd.pinned (.plain (OpenSpec.upto fecBackSpec)) fecBackUptoCard

/-- THE SECOND FORM's CARD OF 'clarionlaw11.FecTurned'. -/
def fecTurnedUptoCard : Claim7 := { stood := { row := fecTurnedUptoRow, standIns := [], harness := (true, "3100ff59ca0ede79e1a6bb31d1e21688621158169695f72397a620bf92f62cf0"), looks := false }, kinds := [], alts := [], laidByText := true, laidKinds := [.widerDeep], laidTests := true, laidLooks := .later }
def FecTurnedUptoCardSaid : Prop := Claim7.holds Tryd.pinned (.plain (OpenSpec.upto fecTurnedSpec)) fecTurnedUptoCard

/-- THE SECOND FORM's CARD OF 'clarionlaw11.FecReads'. -/
def fecReadsUptoCard : Claim7 := { stood := { row := fecReadsUptoRow, standIns := [], harness := (true, "3100ff59ca0ede79e1a6bb31d1e21688621158169695f72397a620bf92f62cf0"), looks := false }, kinds := [], alts := [], laidByText := true, laidKinds := [.widerDeep], laidTests := true, laidLooks := .later }
def FecReadsUptoCardSaid : Prop := Claim7.holds Tryd.pinned (.plain (OpenSpec.upto fecReadsSpec)) fecReadsUptoCard
end Rows
end Go.Proofs.YtfadhgbhdoddpaaDoor
