/-
  NARROWER THAN 'FOR EVERY INPUT', by the rows' own cells (each row's printed sentence says how): SliceLays: laid · SliceStarts: laid.
  DERIVED. THE GIVEN ROWS OF THIS SEAT. 2 by the template 'for every input the law returns true; each argument reads behind the call as it read before'; 0 by the template 'total and deterministic' (their statements: YtibjkhepedfpiaaDoorTotals.lean).
  GIVEN WITH THE SEED: the statements are not yours to turn. If you find one false, say at which input.
  Laid BY PROGRAM, IN A SANDBOX (cutbox-rows.mjs): the forced cells as the released guide's own fill.sh prints them over the translation a746941f1b9324c2… (all of the seat's roots in one cut). By AI agents, Wed Nov 11 2026. No macro, syntax, notation, axiom, sorry.
-/
import Derived.Test.YtibjkhepedfpiaaDoorChecked
import GoSem.Claim
import GoSem.ClaimJoined
import GoSem.ClaimMapViews
import Derived.JoinedTies
import Derived.KernelRfl
namespace Go.Proofs.YtibjkhepedfpiaaDoor
/- THE CELL 'sum', in the pinned program and in every row, IS THE sha256 OF THE DUMP (.gsa) THAT YtibjkhepedfpiaaDoorProg.lean LOADS. Nothing in Lean hashes anything: it is a label: what it is worth is what the hold of that sum in a sandbox is worth. -/
noncomputable def Tryd.pinned : Pinned := { name := "ytibjkhepedfpiaadoor", sum := "a746941f1b9324c2e0c77439cf2e48eb6bb08ac02be080649442a8d6bd77afc6", checked := Tryd.checked }
namespace Rows
def none {H : Type} : Left H := { results := [], args := [] }

/- WHAT THE LISTED PACKAGE-LEVEL VARIABLES READ AS WHEN THE CALL BEGINS. Each datum BY PROGRAM (the guide's laid-datum.mjs) off the statement by which the dump's own 'gosem.cut.vars' lays the variable. In a bare row this is a premise. The card (YtibjkhepedfpiaaDoorCards.lean) ties it to the program's text. -/
def laid_clarion_packet_widths {H : Type} : DataW H := .agg [.lit (.int .i64 8), .lit (.int .i64 1), .lit (.int .i64 1), .lit (.int .i64 1), .lit (.int .i64 13), .lit (.int .i64 2), .lit (.int .i64 2), .lit (.int .i64 4)]

/-- 'clarionlaw20.SliceLays': WHATEVER THE INPUT: true; the input reads as it did. -/
def sliceLaysSpec : ChangeSpec := { name := "sliceLays", fn := fun _ => fun
  | [d] => { results := [.lit (.bool true)], args := [d] }
  | _ => none }
def sliceLaysRow : OpenClaim := { program := "ytibjkhepedfpiaadoor", sum := "a746941f1b9324c2e0c77439cf2e48eb6bb08ac02be080649442a8d6bd77afc6", func := "clarion/clarionlaw20.SliceLays", spec := "sliceLays", inPlace := ["internal/abi.NoEscape", "internal/bytealg.MakeNoZero"], unfollowed := true, recurses := true, named := ["clarion/packet.widths"], apart := false, laid := [("clarion/packet.widths", laid_clarion_packet_widths)] }
def SliceLaysSaid : Prop := sliceLaysRow.holds Tryd.pinned (OpenSpec.ofChange sliceLaysSpec)

/-- ITS FALSE NEIGHBOUR: 'it returns false'. Refute it at one input. -/
def sliceLaysWrong : ChangeSpec := { name := "sliceLays", fn := fun _ => fun
  | [d] => { results := [.lit (.bool false)], args := [d] }
  | _ => none }
def SliceLaysWrongFalsely : Prop := sliceLaysRow.holds Tryd.pinned (OpenSpec.ofChange sliceLaysWrong)

/-- 'clarionlaw20.SliceStarts': WHATEVER THE INPUT: true; the input reads as it did. -/
def sliceStartsSpec : ChangeSpec := { name := "sliceStarts", fn := fun _ => fun
  | [d] => { results := [.lit (.bool true)], args := [d] }
  | _ => none }
def sliceStartsRow : OpenClaim := { program := "ytibjkhepedfpiaadoor", sum := "a746941f1b9324c2e0c77439cf2e48eb6bb08ac02be080649442a8d6bd77afc6", func := "clarion/clarionlaw20.SliceStarts", spec := "sliceStarts", inPlace := ["internal/abi.NoEscape", "internal/bytealg.MakeNoZero"], unfollowed := true, recurses := true, named := ["clarion/packet.widths"], apart := false, laid := [("clarion/packet.widths", laid_clarion_packet_widths)] }
def SliceStartsSaid : Prop := sliceStartsRow.holds Tryd.pinned (OpenSpec.ofChange sliceStartsSpec)

/-- ITS FALSE NEIGHBOUR: 'it returns false'. Refute it at one input. -/
def sliceStartsWrong : ChangeSpec := { name := "sliceStarts", fn := fun _ => fun
  | [d] => { results := [.lit (.bool false)], args := [d] }
  | _ => none }
def SliceStartsWrongFalsely : Prop := sliceStartsRow.holds Tryd.pinned (OpenSpec.ofChange sliceStartsWrong)

/- THE SECOND FORM. 'bulk': how many values and letters a reading holds, each counted each time it is reached (what is shared counts as often as it is met; a slice's spare places count too). A statement '..UptoSaid' is the law's where the arguments, and the package variables that the reading takes, are together of bulk at most 1048576: NARROWER than '..Said'. Prove '..Said' where nothing that the law and all that it calls make is longer than what came in: it says more and counts as full. Else prove '..UptoSaid'. A law counts once. -/
mutual
def uptoBulk {H : Type} : DataW H → Nat
  | .lit (.string bytes) => bytes.length + 1
  | .lit _ => 1
  | .nil => 1
  | .ptr d => uptoBulk d + 1
  | .slice elems spare => uptoBulkAll elems + uptoBulkAll spare + 1
  | .agg parts => uptoBulkAll parts + 1
  | .iface _ d => uptoBulk d + 1
  | .map entries => uptoBulkEntries entries + 1
  | .held _ => 1
def uptoBulkAll {H : Type} : List (DataW H) → Nat
  | [] => 0
  | d :: r => uptoBulk d + uptoBulkAll r
def uptoBulkEntries {H : Type} : List (Lit × DataW H) → Nat
  | [] => 0
  | x :: r => uptoBulkEntry x + uptoBulkEntries r
def uptoBulkEntry {H : Type} : Lit × DataW H → Nat
  | (.string bytes, d) => bytes.length + uptoBulk d + 1
  | (_, d) => uptoBulk d + 1
 end
def uptoSmall : (H : Type) → List (DataW H) → Bool := fun _ ds => decide (uptoBulkAll ds ≤ 1048576)
def OpenSpec.upto (s : _root_.Go.ChangeSpec) : _root_.Go.OpenSpec := { _root_.Go.OpenSpec.ofChange s with cond := some uptoSmall }

/-- 'clarionlaw20.SliceLays', WHERE WHAT IT READS IS OF BULK AT MOST 1048576: true; the input reads as it did. -/
def sliceLaysUptoRow : OpenClaim := { program := "ytibjkhepedfpiaadoor", sum := "a746941f1b9324c2e0c77439cf2e48eb6bb08ac02be080649442a8d6bd77afc6", func := "clarion/clarionlaw20.SliceLays", spec := "sliceLays", inPlace := ["internal/abi.NoEscape", "internal/bytealg.MakeNoZero"], unfollowed := true, recurses := true, named := ["clarion/packet.widths"], apart := false, laid := [("clarion/packet.widths", laid_clarion_packet_widths)], narrowed := true }
def SliceLaysUptoSaid : Prop := sliceLaysUptoRow.holds Tryd.pinned (OpenSpec.upto sliceLaysSpec)

/-- 'clarionlaw20.SliceStarts', WHERE WHAT IT READS IS OF BULK AT MOST 1048576: true; the input reads as it did. -/
def sliceStartsUptoRow : OpenClaim := { program := "ytibjkhepedfpiaadoor", sum := "a746941f1b9324c2e0c77439cf2e48eb6bb08ac02be080649442a8d6bd77afc6", func := "clarion/clarionlaw20.SliceStarts", spec := "sliceStarts", inPlace := ["internal/abi.NoEscape", "internal/bytealg.MakeNoZero"], unfollowed := true, recurses := true, named := ["clarion/packet.widths"], apart := false, laid := [("clarion/packet.widths", laid_clarion_packet_widths)], narrowed := true }
def SliceStartsUptoSaid : Prop := sliceStartsUptoRow.holds Tryd.pinned (OpenSpec.upto sliceStartsSpec)

end Rows
end Go.Proofs.YtibjkhepedfpiaaDoor
