/-
  DERIVED. GIVEN WITH THE SEED: THE CARDS: each row of YtlocgilgdnhnlaaGreatDoorRows.lean that lists a variable, with what it lists TIED to the program's text (the seventh form; the later family's looks); each row that meets fmt, with fmt's text TOLD by the authors' own Lean function (tested against real Go, not proved from fmt's source: count such statements apart). THE CARD IS WHAT COUNTS. Prove the row's statement (the work); the ties are given (YtlocgilgdnhnlaaGreatDoorTie.lean); close each card by the builder's one call (the guide's Derived/Test/ToyasCard.lean, 'card_holds'). Laid BY PROGRAM, IN A SANDBOX (cutbox-door.mjs). By AI agents, Wed Nov 11 2026. No macro, syntax, notation, axiom, sorry.
-/
import Derived.Test.YtlocgilgdnhnlaaGreatDoorRows
import GoSem.ClaimSeven
namespace Go.Proofs.YtlocgilgdnhnlaaGreatDoor
namespace Rows

/-- THE TIED CARD OF 'clarionlaw13.TableMends'. -/
def tableMendsCard : Claim7 := { stood := { row := tableMendsRow, standIns := [], harness := (true, "d96d4fbe6443b914351955ea407f89a9a3c0259bd5017124798508d91b115bd7"), looks := false }, kinds := [], alts := [], laidByText := true, laidKinds := [.data, .widerDeep, .widerDeep, .pinned], laidTests := true, laidLooks := .later }
def TableMendsCardSaid : Prop := Claim7.holds Tryz.pinned (.plain (OpenSpec.ofChange tableMendsSpec)) tableMendsCard

/-- THE TIED CARD OF 'clarionlaw13.TableOrder'. -/
def tableOrderCard : Claim7 := { stood := { row := tableOrderRow, standIns := [], harness := (true, "d96d4fbe6443b914351955ea407f89a9a3c0259bd5017124798508d91b115bd7"), looks := false }, kinds := [], alts := [], laidByText := true, laidKinds := [.data, .widerDeep, .widerDeep, .pinned], laidTests := true, laidLooks := .later }
def TableOrderCardSaid : Prop := Claim7.holds Tryz.pinned (.plain (OpenSpec.ofChange tableOrderSpec)) tableOrderCard

/-- THE SECOND FORM's CARD OF 'clarionlaw13.TableMends'. -/
def tableMendsUptoCard : Claim7 := { stood := { row := tableMendsUptoRow, standIns := [], harness := (true, "d96d4fbe6443b914351955ea407f89a9a3c0259bd5017124798508d91b115bd7"), looks := false }, kinds := [], alts := [], laidByText := true, laidKinds := [.data, .widerDeep, .widerDeep, .pinned], laidTests := true, laidLooks := .later }
def TableMendsUptoCardSaid : Prop := Claim7.holds Tryz.pinned (.plain (OpenSpec.upto tableMendsSpec)) tableMendsUptoCard

/-- THE SECOND FORM's CARD OF 'clarionlaw13.TableOrder'. -/
def tableOrderUptoCard : Claim7 := { stood := { row := tableOrderUptoRow, standIns := [], harness := (true, "d96d4fbe6443b914351955ea407f89a9a3c0259bd5017124798508d91b115bd7"), looks := false }, kinds := [], alts := [], laidByText := true, laidKinds := [.data, .widerDeep, .widerDeep, .pinned], laidTests := true, laidLooks := .later }
def TableOrderUptoCardSaid : Prop := Claim7.holds Tryz.pinned (.plain (OpenSpec.upto tableOrderSpec)) tableOrderUptoCard
end Rows
end Go.Proofs.YtlocgilgdnhnlaaGreatDoor
