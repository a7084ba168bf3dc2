/-
  DERIVED. GIVEN WITH THE SEED: THE CARDS: each row of YtnjbacdgecoedaaDoorRows.lean that lists a variable, with what it lists TIED to the program's text (the seventh form; the later family's looks); each row that meets fmt, with fmt's text TOLD by the authors' own Lean function (tested against real Go, not proved from fmt's source: count such statements apart). THE CARD IS WHAT COUNTS. Prove the row's statement (the work); the ties are given (YtnjbacdgecoedaaDoorTie.lean); close each card by the builder's one call (the guide's Derived/Test/ToyasCard.lean, 'card_holds'). Laid BY PROGRAM, IN A SANDBOX (cutbox-door.mjs). By AI agents, Wed Nov 11 2026. No macro, syntax, notation, axiom, sorry.
-/
import Derived.Test.YtnjbacdgecoedaaDoorRows
import GoSem.ClaimSeven
namespace Go.Proofs.YtnjbacdgecoedaaDoor
namespace Rows

/-- THE TIED CARD OF 'clarionlaw13.TablePlays'. -/
def tablePlaysCard : Claim7 := { stood := { row := tablePlaysRow, standIns := [], harness := (true, "e300e4ad8133d096074017dc0a97568ae3c4bc3d1df5fc454a04f974ea4e2c98"), looks := false }, kinds := [], alts := [], laidByText := true, laidKinds := [.widerDeep], laidTests := true, laidLooks := .later }
def TablePlaysCardSaid : Prop := Claim7.holds Tryd.pinned (.plain (OpenSpec.ofChange tablePlaysSpec)) tablePlaysCard

/-- THE SECOND FORM's CARD OF 'clarionlaw13.TablePlays'. -/
def tablePlaysUptoCard : Claim7 := { stood := { row := tablePlaysUptoRow, standIns := [], harness := (true, "e300e4ad8133d096074017dc0a97568ae3c4bc3d1df5fc454a04f974ea4e2c98"), looks := false }, kinds := [], alts := [], laidByText := true, laidKinds := [.widerDeep], laidTests := true, laidLooks := .later }
def TablePlaysUptoCardSaid : Prop := Claim7.holds Tryd.pinned (.plain (OpenSpec.upto tablePlaysSpec)) tablePlaysUptoCard
end Rows
end Go.Proofs.YtnjbacdgecoedaaDoor
