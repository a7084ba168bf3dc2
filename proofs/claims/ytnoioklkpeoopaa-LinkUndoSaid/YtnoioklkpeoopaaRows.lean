/-
  No cell of these rows narrows 'for every input' (looked for: loops, veiled, ifaces, maps, wideKeys, modest, calm, conditions, laid).
  DERIVED. THE GIVEN ROWS OF THIS SEAT. 2 by the template 'for every input the law returns true; each argument reads behind the call as it read before'; 0 by the template 'total and deterministic' (their statements: YtnoioklkpeoopaaTotals.lean).
  GIVEN WITH THE SEED: the statements are not yours to turn. If you find one false, say at which input.
  Laid BY PROGRAM, IN A SANDBOX (cutbox-rows.mjs): the forced cells as the released guide's own fill.sh prints them over the translation e4ba763bbb126cde… (all of the seat's roots in one cut). By AI agents, Wed Nov 11 2026. No macro, syntax, notation, axiom, sorry.
-/
import Derived.Test.YtnoioklkpeoopaaChecked
import GoSem.Claim
import GoSem.ClaimJoined
import GoSem.ClaimMapViews
import Derived.JoinedTies
import Derived.KernelRfl
namespace Go.Proofs.Ytnoioklkpeoopaa
/- THE CELL 'sum', in the pinned program and in every row, IS THE sha256 OF THE DUMP (.gsa) THAT YtnoioklkpeoopaaProg.lean LOADS. Nothing in Lean hashes anything: it is a label: what it is worth is what the hold of that sum in a sandbox is worth. -/
noncomputable def Try.pinned : Pinned := { name := "ytnoioklkpeoopaa", sum := "e4ba763bbb126cde005b162407f4669ea9b46d8f20b742b02d591112ac8b0485", checked := Try.checked }
namespace Rows
def none {H : Type} : Left H := { results := [], args := [] }

/-- 'clarionlaw23.LinkPasses': WHATEVER THE INPUT: true; the input reads as it did. -/
def linkPassesSpec : ChangeSpec := { name := "linkPasses", fn := fun _ => fun
  | [d1, d2] => { results := [.lit (.bool true)], args := [d1, d2] }
  | _ => none }
def linkPassesRow : OpenClaim := { program := "ytnoioklkpeoopaa", sum := "e4ba763bbb126cde005b162407f4669ea9b46d8f20b742b02d591112ac8b0485", func := "clarion/clarionlaw23.LinkPasses", spec := "linkPasses", unfollowed := true, recurses := true, apart := false }
def LinkPassesSaid : Prop := linkPassesRow.holds Try.pinned (OpenSpec.ofChange linkPassesSpec)

/-- ITS FALSE NEIGHBOUR: 'it returns false'. Refute it at one input. -/
def linkPassesWrong : ChangeSpec := { name := "linkPasses", fn := fun _ => fun
  | [d1, d2] => { results := [.lit (.bool false)], args := [d1, d2] }
  | _ => none }
def LinkPassesWrongFalsely : Prop := linkPassesRow.holds Try.pinned (OpenSpec.ofChange linkPassesWrong)

/-- 'clarionlaw23.LinkUndo': WHATEVER THE INPUT: true; the input reads as it did. -/
def linkUndoSpec : ChangeSpec := { name := "linkUndo", fn := fun _ => fun
  | [d1, d2, d3] => { results := [.lit (.bool true)], args := [d1, d2, d3] }
  | _ => none }
def linkUndoRow : OpenClaim := { program := "ytnoioklkpeoopaa", sum := "e4ba763bbb126cde005b162407f4669ea9b46d8f20b742b02d591112ac8b0485", func := "clarion/clarionlaw23.LinkUndo", spec := "linkUndo", unfollowed := true, recurses := true, apart := false }
def LinkUndoSaid : Prop := linkUndoRow.holds Try.pinned (OpenSpec.ofChange linkUndoSpec)

/-- ITS FALSE NEIGHBOUR: 'it returns false'. Refute it at one input. -/
def linkUndoWrong : ChangeSpec := { name := "linkUndo", fn := fun _ => fun
  | [d1, d2, d3] => { results := [.lit (.bool false)], args := [d1, d2, d3] }
  | _ => none }
def LinkUndoWrongFalsely : Prop := linkUndoRow.holds Try.pinned (OpenSpec.ofChange linkUndoWrong)

/- THE SECOND FORM. 'bulk': how many values and letters a reading holds, each counted each time it is reached (what is shared counts as often as it is met; a slice's spare places count too). A statement '..UptoSaid' is the law's where the arguments, and the package variables that the reading takes, are together of bulk at most 1048576: NARROWER than '..Said'. Prove '..Said' where nothing that the law and all that it calls make is longer than what came in: it says more and counts as full. Else prove '..UptoSaid'. A law counts once. -/
mutual
def uptoBulk {H : Type} : DataW H → Nat
  | .lit (.string bytes) => bytes.length + 1
  | .lit _ => 1
  | .nil => 1
  | .ptr d => uptoBulk d + 1
  | .slice elems spare => uptoBulkAll elems + uptoBulkAll spare + 1
  | .agg parts => uptoBulkAll parts + 1
  | .iface _ d => uptoBulk d + 1
  | .map entries => uptoBulkEntries entries + 1
  | .held _ => 1
def uptoBulkAll {H : Type} : List (DataW H) → Nat
  | [] => 0
  | d :: r => uptoBulk d + uptoBulkAll r
def uptoBulkEntries {H : Type} : List (Lit × DataW H) → Nat
  | [] => 0
  | x :: r => uptoBulkEntry x + uptoBulkEntries r
def uptoBulkEntry {H : Type} : Lit × DataW H → Nat
  | (.string bytes, d) => bytes.length + uptoBulk d + 1
  | (_, d) => uptoBulk d + 1
 end
def uptoSmall : (H : Type) → List (DataW H) → Bool := fun _ ds => decide (uptoBulkAll ds ≤ 1048576)
def OpenSpec.upto (s : _root_.Go.ChangeSpec) : _root_.Go.OpenSpec := { _root_.Go.OpenSpec.ofChange s with cond := some uptoSmall }

/-- 'clarionlaw23.LinkPasses', WHERE WHAT IT READS IS OF BULK AT MOST 1048576: true; the input reads as it did. -/
def linkPassesUptoRow : OpenClaim := { program := "ytnoioklkpeoopaa", sum := "e4ba763bbb126cde005b162407f4669ea9b46d8f20b742b02d591112ac8b0485", func := "clarion/clarionlaw23.LinkPasses", spec := "linkPasses", unfollowed := true, recurses := true, apart := false, narrowed := true }
def LinkPassesUptoSaid : Prop := linkPassesUptoRow.holds Try.pinned (OpenSpec.upto linkPassesSpec)

/-- 'clarionlaw23.LinkUndo', WHERE WHAT IT READS IS OF BULK AT MOST 1048576: true; the input reads as it did. -/
def linkUndoUptoRow : OpenClaim := { program := "ytnoioklkpeoopaa", sum := "e4ba763bbb126cde005b162407f4669ea9b46d8f20b742b02d591112ac8b0485", func := "clarion/clarionlaw23.LinkUndo", spec := "linkUndo", unfollowed := true, recurses := true, apart := false, narrowed := true }
def LinkUndoUptoSaid : Prop := linkUndoUptoRow.holds Try.pinned (OpenSpec.upto linkUndoSpec)

end Rows
end Go.Proofs.Ytnoioklkpeoopaa
