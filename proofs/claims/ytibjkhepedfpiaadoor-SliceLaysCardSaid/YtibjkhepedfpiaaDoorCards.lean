/-
  DERIVED. GIVEN WITH THE SEED: THE CARDS: each row of YtibjkhepedfpiaaDoorRows.lean that lists a variable, with what it lists TIED to the program's text (the seventh form; the later family's looks); each row that meets fmt, with fmt's text TOLD by the authors' own Lean function (tested against real Go, not proved from fmt's source: count such statements apart). THE CARD IS WHAT COUNTS. Prove the row's statement (the work); the ties are given (YtibjkhepedfpiaaDoorTie.lean); close each card by the builder's one call (the guide's Derived/Test/ToyasCard.lean, 'card_holds'). Laid BY PROGRAM, IN A SANDBOX (cutbox-door.mjs). By AI agents, Wed Nov 11 2026. No macro, syntax, notation, axiom, sorry.
-/
import Derived.Test.YtibjkhepedfpiaaDoorRows
import GoSem.ClaimSeven
namespace Go.Proofs.YtibjkhepedfpiaaDoor
namespace Rows

/-- THE TIED CARD OF 'clarionlaw20.SliceLays'. -/
def sliceLaysCard : Claim7 := { stood := { row := sliceLaysRow, standIns := [], harness := (true, "dd9d17914ed2a53ee11e9e445d9367ba1e58f386e4ffeb27591c9bdfafdb19ab"), looks := false }, kinds := [], alts := [], laidByText := true, laidKinds := [.data], laidTests := true, laidLooks := .later }
def SliceLaysCardSaid : Prop := Claim7.holds Tryd.pinned (.plain (OpenSpec.ofChange sliceLaysSpec)) sliceLaysCard

/-- THE TIED CARD OF 'clarionlaw20.SliceStarts'. -/
def sliceStartsCard : Claim7 := { stood := { row := sliceStartsRow, standIns := [], harness := (true, "dd9d17914ed2a53ee11e9e445d9367ba1e58f386e4ffeb27591c9bdfafdb19ab"), looks := false }, kinds := [], alts := [], laidByText := true, laidKinds := [.data], laidTests := true, laidLooks := .later }
def SliceStartsCardSaid : Prop := Claim7.holds Tryd.pinned (.plain (OpenSpec.ofChange sliceStartsSpec)) sliceStartsCard

/-- THE SECOND FORM's CARD OF 'clarionlaw20.SliceLays'. -/
def sliceLaysUptoCard : Claim7 := { stood := { row := sliceLaysUptoRow, standIns := [], harness := (true, "dd9d17914ed2a53ee11e9e445d9367ba1e58f386e4ffeb27591c9bdfafdb19ab"), looks := false }, kinds := [], alts := [], laidByText := true, laidKinds := [.data], laidTests := true, laidLooks := .later }
def SliceLaysUptoCardSaid : Prop := Claim7.holds Tryd.pinned (.plain (OpenSpec.upto sliceLaysSpec)) sliceLaysUptoCard

/-- THE SECOND FORM's CARD OF 'clarionlaw20.SliceStarts'. -/
def sliceStartsUptoCard : Claim7 := { stood := { row := sliceStartsUptoRow, standIns := [], harness := (true, "dd9d17914ed2a53ee11e9e445d9367ba1e58f386e4ffeb27591c9bdfafdb19ab"), looks := false }, kinds := [], alts := [], laidByText := true, laidKinds := [.data], laidTests := true, laidLooks := .later }
def SliceStartsUptoCardSaid : Prop := Claim7.holds Tryd.pinned (.plain (OpenSpec.upto sliceStartsSpec)) sliceStartsUptoCard
end Rows
end Go.Proofs.YtibjkhepedfpiaaDoor
