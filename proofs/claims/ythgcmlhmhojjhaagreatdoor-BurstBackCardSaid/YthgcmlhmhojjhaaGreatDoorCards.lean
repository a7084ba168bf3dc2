/-
  DERIVED. GIVEN WITH THE SEED: THE CARDS: each row of YthgcmlhmhojjhaaGreatDoorRows.lean that lists a variable, with what it lists TIED to the program's text (the seventh form; the later family's looks); each row that meets fmt, with fmt's text TOLD by the authors' own Lean function (tested against real Go, not proved from fmt's source: count such statements apart). THE CARD IS WHAT COUNTS. Prove the row's statement (the work); the ties are given (YthgcmlhmhojjhaaGreatDoorTie.lean); close each card by the builder's one call (the guide's Derived/Test/ToyasCard.lean, 'card_holds'). Laid BY PROGRAM, IN A SANDBOX (cutbox-door.mjs). By AI agents, Wed Nov 11 2026. No macro, syntax, notation, axiom, sorry.
-/
import Derived.Test.YthgcmlhmhojjhaaGreatDoorRows
import GoSem.ClaimSeven
namespace Go.Proofs.YthgcmlhmhojjhaaGreatDoor
namespace Rows

/-- THE TIED CARD OF 'clarionlaw19.BurstTakes'. -/
def burstTakesCard : Claim7 := { stood := { row := burstTakesRow, standIns := [], harness := (true, "3090bf4ddb2b678ccb4cd7c9210ede0c4e92a1ba1337ba17c011f3a61cf15822"), looks := false }, kinds := [], alts := [], laidByText := true, laidKinds := [.data, .widerDeep, .widerDeep, .widerDeep, .pinned], laidTests := true, laidLooks := .later }
def BurstTakesCardSaid : Prop := Claim7.holds Tryz.pinned (.plain (OpenSpec.ofChange burstTakesSpec)) burstTakesCard

/-- THE TIED CARD OF 'clarionlaw19.BurstBack'. -/
def burstBackCard : Claim7 := { stood := { row := burstBackRow, standIns := [], harness := (true, "3090bf4ddb2b678ccb4cd7c9210ede0c4e92a1ba1337ba17c011f3a61cf15822"), looks := false }, kinds := [], alts := [], laidByText := true, laidKinds := [.data, .widerDeep, .widerDeep, .widerDeep, .pinned], laidTests := true, laidLooks := .later }
def BurstBackCardSaid : Prop := Claim7.holds Tryz.pinned (.plain (OpenSpec.ofChange burstBackSpec)) burstBackCard

/-- THE TIED CARD OF 'clarionlaw19.BurstSafe'. -/
def burstSafeCard : Claim7 := { stood := { row := burstSafeRow, standIns := [], harness := (true, "3090bf4ddb2b678ccb4cd7c9210ede0c4e92a1ba1337ba17c011f3a61cf15822"), looks := false }, kinds := [], alts := [], laidByText := true, laidKinds := [.data, .widerDeep, .widerDeep, .widerDeep, .pinned], laidTests := true, laidLooks := .later }
def BurstSafeCardSaid : Prop := Claim7.holds Tryz.pinned (.plain (OpenSpec.ofChange burstSafeSpec)) burstSafeCard

/-- THE TIED CARD OF 'clarionlaw19.BurstOrder'. -/
def burstOrderCard : Claim7 := { stood := { row := burstOrderRow, standIns := [], harness := (true, "3090bf4ddb2b678ccb4cd7c9210ede0c4e92a1ba1337ba17c011f3a61cf15822"), looks := false }, kinds := [], alts := [], laidByText := true, laidKinds := [.data, .widerDeep, .widerDeep, .widerDeep, .pinned], laidTests := true, laidLooks := .later }
def BurstOrderCardSaid : Prop := Claim7.holds Tryz.pinned (.plain (OpenSpec.ofChange burstOrderSpec)) burstOrderCard

/-- THE SECOND FORM's CARD OF 'clarionlaw19.BurstTakes'. -/
def burstTakesUptoCard : Claim7 := { stood := { row := burstTakesUptoRow, standIns := [], harness := (true, "3090bf4ddb2b678ccb4cd7c9210ede0c4e92a1ba1337ba17c011f3a61cf15822"), looks := false }, kinds := [], alts := [], laidByText := true, laidKinds := [.data, .widerDeep, .widerDeep, .widerDeep, .pinned], laidTests := true, laidLooks := .later }
def BurstTakesUptoCardSaid : Prop := Claim7.holds Tryz.pinned (.plain (OpenSpec.upto burstTakesSpec)) burstTakesUptoCard

/-- THE SECOND FORM's CARD OF 'clarionlaw19.BurstBack'. -/
def burstBackUptoCard : Claim7 := { stood := { row := burstBackUptoRow, standIns := [], harness := (true, "3090bf4ddb2b678ccb4cd7c9210ede0c4e92a1ba1337ba17c011f3a61cf15822"), looks := false }, kinds := [], alts := [], laidByText := true, laidKinds := [.data, .widerDeep, .widerDeep, .widerDeep, .pinned], laidTests := true, laidLooks := .later }
def BurstBackUptoCardSaid : Prop := Claim7.holds Tryz.pinned (.plain (OpenSpec.upto burstBackSpec)) burstBackUptoCard

/-- THE SECOND FORM's CARD OF 'clarionlaw19.BurstSafe'. -/
def burstSafeUptoCard : Claim7 := { stood := { row := burstSafeUptoRow, standIns := [], harness := (true, "3090bf4ddb2b678ccb4cd7c9210ede0c4e92a1ba1337ba17c011f3a61cf15822"), looks := false }, kinds := [], alts := [], laidByText := true, laidKinds := [.data, .widerDeep, .widerDeep, .widerDeep, .pinned], laidTests := true, laidLooks := .later }
def BurstSafeUptoCardSaid : Prop := Claim7.holds Tryz.pinned (.plain (OpenSpec.upto burstSafeSpec)) burstSafeUptoCard

/-- THE SECOND FORM's CARD OF 'clarionlaw19.BurstOrder'. -/
def burstOrderUptoCard : Claim7 := { stood := { row := burstOrderUptoRow, standIns := [], harness := (true, "3090bf4ddb2b678ccb4cd7c9210ede0c4e92a1ba1337ba17c011f3a61cf15822"), looks := false }, kinds := [], alts := [], laidByText := true, laidKinds := [.data, .widerDeep, .widerDeep, .widerDeep, .pinned], laidTests := true, laidLooks := .later }
def BurstOrderUptoCardSaid : Prop := Claim7.holds Tryz.pinned (.plain (OpenSpec.upto burstOrderSpec)) burstOrderUptoCard
end Rows
end Go.Proofs.YthgcmlhmhojjhaaGreatDoor
