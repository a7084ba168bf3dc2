/-
  DERIVED. GIVEN WITH THE SEED: THE CARDS: each row of YtlocgilgdnhnlaaDoorRows.lean that lists a variable, with what it lists TIED to the program's text (the seventh form; the later family's looks); each row that meets fmt, with fmt's text TOLD by the authors' own Lean function (tested against real Go, not proved from fmt's source: count such statements apart). THE CARD IS WHAT COUNTS. Prove the row's statement (the work); the ties are given (YtlocgilgdnhnlaaDoorTie.lean); close each card by the builder's one call (the guide's Derived/Test/ToyasCard.lean, 'card_holds'). Laid BY PROGRAM, IN A SANDBOX (cutbox-door.mjs). By AI agents, Wed Nov 11 2026. No macro, syntax, notation, axiom, sorry.
-/
import Derived.Test.YtlocgilgdnhnlaaDoorRows
import GoSem.ClaimSeven
namespace Go.Proofs.YtlocgilgdnhnlaaDoor
namespace Rows

/-- THE TIED CARD OF 'clarionlaw13.TableSafe'. -/
def tableSafeCard : Claim7 := { stood := { row := tableSafeRow, standIns := [], harness := (true, "cd749cde55ce602650943397be51367c336d50008a3e62e368022352ae3114ae"), looks := false }, kinds := [], alts := [], laidByText := true, laidKinds := [.data, .widerDeep, .widerDeep, .pinned], laidTests := true, laidLooks := .later }
def TableSafeCardSaid : Prop := Claim7.holds Tryd.pinned (.plain (OpenSpec.ofChange tableSafeSpec)) tableSafeCard

/-- THE TIED CARD OF 'clarionlaw13.TableNil'. -/
def tableNilCard : Claim7 := { stood := { row := tableNilRow, standIns := [], harness := (true, "cd749cde55ce602650943397be51367c336d50008a3e62e368022352ae3114ae"), looks := false }, kinds := [], alts := [], laidByText := true, laidKinds := [.data, .widerDeep, .pinned], laidTests := true, laidLooks := .later }
def TableNilCardSaid : Prop := Claim7.holds Tryd.pinned (.plain (OpenSpec.ofChange tableNilSpec)) tableNilCard

/-- THE SECOND FORM's CARD OF 'clarionlaw13.TableSafe'. -/
def tableSafeUptoCard : Claim7 := { stood := { row := tableSafeUptoRow, standIns := [], harness := (true, "cd749cde55ce602650943397be51367c336d50008a3e62e368022352ae3114ae"), looks := false }, kinds := [], alts := [], laidByText := true, laidKinds := [.data, .widerDeep, .widerDeep, .pinned], laidTests := true, laidLooks := .later }
def TableSafeUptoCardSaid : Prop := Claim7.holds Tryd.pinned (.plain (OpenSpec.upto tableSafeSpec)) tableSafeUptoCard

/-- THE SECOND FORM's CARD OF 'clarionlaw13.TableNil'. -/
def tableNilUptoCard : Claim7 := { stood := { row := tableNilUptoRow, standIns := [], harness := (true, "cd749cde55ce602650943397be51367c336d50008a3e62e368022352ae3114ae"), looks := false }, kinds := [], alts := [], laidByText := true, laidKinds := [.data, .widerDeep, .pinned], laidTests := true, laidLooks := .later }
def TableNilUptoCardSaid : Prop := Claim7.holds Tryd.pinned (.plain (OpenSpec.upto tableNilSpec)) tableNilUptoCard
end Rows
end Go.Proofs.YtlocgilgdnhnlaaDoor
