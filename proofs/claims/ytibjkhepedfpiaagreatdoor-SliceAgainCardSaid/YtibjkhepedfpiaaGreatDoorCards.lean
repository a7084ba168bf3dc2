/-
  DERIVED. GIVEN WITH THE SEED: THE CARDS: each row of YtibjkhepedfpiaaGreatDoorRows.lean that lists a variable, with what it lists TIED to the program's text (the seventh form; the later family's looks); each row that meets fmt, with fmt's text TOLD by the authors' own Lean function (tested against real Go, not proved from fmt's source: count such statements apart). THE CARD IS WHAT COUNTS. Prove the row's statement (the work); the ties are given (YtibjkhepedfpiaaGreatDoorTie.lean); close each card by the builder's one call (the guide's Derived/Test/ToyasCard.lean, 'card_holds'). Laid BY PROGRAM, IN A SANDBOX (cutbox-door.mjs). By AI agents, Wed Nov 11 2026. No macro, syntax, notation, axiom, sorry.
-/
import Derived.Test.YtibjkhepedfpiaaGreatDoorRows
import GoSem.ClaimSeven
namespace Go.Proofs.YtibjkhepedfpiaaGreatDoor
namespace Rows

/-- THE TIED CARD OF 'clarionlaw20.SliceAgain'. -/
def sliceAgainCard : Claim7 := { stood := { row := sliceAgainRow, standIns := [], harness := (true, "063a13346017f2d847cfb566f0efbb69dc41e60ff0fc61d99f698af78480fe48"), looks := false }, kinds := [], alts := [], laidByText := true, laidKinds := [.widerDeep], laidTests := true, laidLooks := .later }
def SliceAgainCardSaid : Prop := Claim7.holds Tryz.pinned (.plain (OpenSpec.ofChange sliceAgainSpec)) sliceAgainCard

/-- THE TIED CARD OF 'clarionlaw20.SliceDeltas'. -/
def sliceDeltasCard : Claim7 := { stood := { row := sliceDeltasRow, standIns := [], harness := (true, "063a13346017f2d847cfb566f0efbb69dc41e60ff0fc61d99f698af78480fe48"), looks := false }, kinds := [], alts := [], laidByText := true, laidKinds := [.data, .widerDeep], laidTests := true, laidLooks := .later }
def SliceDeltasCardSaid : Prop := Claim7.holds Tryz.pinned (.plain (OpenSpec.ofChange sliceDeltasSpec)) sliceDeltasCard

/-- THE TIED CARD OF 'clariontop.TopStamps'. -/
def topStampsCard : Claim7 := { stood := { row := topStampsRow, standIns := [], harness := (true, "063a13346017f2d847cfb566f0efbb69dc41e60ff0fc61d99f698af78480fe48"), looks := false }, kinds := [], alts := [], laidByText := true, laidKinds := [.data, .data, .widerDeep, .widerDeep, .pinned], laidTests := true, laidLooks := .later }
def TopStampsCardSaid : Prop := Claim7.holds Tryz.pinned (.plain (OpenSpec.ofChange topStampsSpec)) topStampsCard

/-- THE SECOND FORM's CARD OF 'clarionlaw20.SliceAgain'. -/
def sliceAgainUptoCard : Claim7 := { stood := { row := sliceAgainUptoRow, standIns := [], harness := (true, "063a13346017f2d847cfb566f0efbb69dc41e60ff0fc61d99f698af78480fe48"), looks := false }, kinds := [], alts := [], laidByText := true, laidKinds := [.widerDeep], laidTests := true, laidLooks := .later }
def SliceAgainUptoCardSaid : Prop := Claim7.holds Tryz.pinned (.plain (OpenSpec.upto sliceAgainSpec)) sliceAgainUptoCard

/-- THE SECOND FORM's CARD OF 'clarionlaw20.SliceDeltas'. -/
def sliceDeltasUptoCard : Claim7 := { stood := { row := sliceDeltasUptoRow, standIns := [], harness := (true, "063a13346017f2d847cfb566f0efbb69dc41e60ff0fc61d99f698af78480fe48"), looks := false }, kinds := [], alts := [], laidByText := true, laidKinds := [.data, .widerDeep], laidTests := true, laidLooks := .later }
def SliceDeltasUptoCardSaid : Prop := Claim7.holds Tryz.pinned (.plain (OpenSpec.upto sliceDeltasSpec)) sliceDeltasUptoCard

/-- THE SECOND FORM's CARD OF 'clariontop.TopStamps'. -/
def topStampsUptoCard : Claim7 := { stood := { row := topStampsUptoRow, standIns := [], harness := (true, "063a13346017f2d847cfb566f0efbb69dc41e60ff0fc61d99f698af78480fe48"), looks := false }, kinds := [], alts := [], laidByText := true, laidKinds := [.data, .data, .widerDeep, .widerDeep, .pinned], laidTests := true, laidLooks := .later }
def TopStampsUptoCardSaid : Prop := Claim7.holds Tryz.pinned (.plain (OpenSpec.upto topStampsSpec)) topStampsUptoCard
end Rows
end Go.Proofs.YtibjkhepedfpiaaGreatDoor
