/-
  NARROWER THAN 'FOR EVERY INPUT', by the rows' own cells (each row's printed sentence says how): FecApart: laid · FecWrites: laid · FecBack: laid · FecTurned: laid · FecReads: laid.
  DERIVED. THE GIVEN ROWS OF THIS SEAT. 5 by the template 'for every input the law returns true; each argument reads behind the call as it read before'; 0 by the template 'total and deterministic' (their statements: YtfadhgbhdoddpaaDoorTotals.lean).
  GIVEN WITH THE SEED: the statements are not yours to turn. If you find one false, say at which input.
  Laid BY PROGRAM, IN A SANDBOX (cutbox-rows.mjs): the forced cells as the released guide's own fill.sh prints them over the translation 094024f1f9d9b6d2… (all of the seat's roots in one cut). By AI agents, Wed Nov 11 2026. No macro, syntax, notation, axiom, sorry.
-/
import Derived.Test.YtfadhgbhdoddpaaDoorChecked
import GoSem.Claim
import GoSem.ClaimJoined
import GoSem.ClaimMapViews
import Derived.JoinedTies
import Derived.KernelRfl
namespace Go.Proofs.YtfadhgbhdoddpaaDoor
/- THE CELL 'sum', in the pinned program and in every row, IS THE sha256 OF THE DUMP (.gsa) THAT YtfadhgbhdoddpaaDoorProg.lean LOADS. Nothing in Lean hashes anything: it is a label: what it is worth is what the hold of that sum in a sandbox is worth. -/
noncomputable def Tryd.pinned : Pinned := { name := "ytfadhgbhdoddpaadoor", sum := "094024f1f9d9b6d2024fa282cb188ac27b8666fd2203c4caacda535b3f0ab9b2", checked := Tryd.checked }
namespace Rows
def none {H : Type} : Left H := { results := [], args := [] }

/- WHAT THE LISTED PACKAGE-LEVEL VARIABLES READ AS WHEN THE CALL BEGINS. Each datum BY PROGRAM (the guide's laid-datum.mjs) off the statement by which the dump's own 'gosem.cut.vars' lays the variable. In a bare row this is a premise. The card (YtfadhgbhdoddpaaDoorCards.lean) ties it to the program's text. -/
def laid_clarion_fec_sizes {H : Type} : DataW H := .agg [.lit (.int .i64 256), .lit (.int .i64 512), .lit (.int .i64 768), .lit (.int .i64 1024)]

/-- 'clarionlaw11.FecApart': WHATEVER THE INPUT: true; the input reads as it did. -/
def fecApartSpec : ChangeSpec := { name := "fecApart", fn := fun _ => fun
  | [d1, d2] => { results := [.lit (.bool true)], args := [d1, d2] }
  | _ => none }
def fecApartRow : OpenClaim := { program := "ytfadhgbhdoddpaadoor", sum := "094024f1f9d9b6d2024fa282cb188ac27b8666fd2203c4caacda535b3f0ab9b2", func := "clarion/clarionlaw11.FecApart", spec := "fecApart", unfollowed := true, recurses := true, named := ["clarion/fec.sizes"], apart := false, laid := [("clarion/fec.sizes", laid_clarion_fec_sizes)] }
def FecApartSaid : Prop := fecApartRow.holds Tryd.pinned (OpenSpec.ofChange fecApartSpec)

/-- ITS FALSE NEIGHBOUR: 'it returns false'. Refute it at one input. -/
def fecApartWrong : ChangeSpec := { name := "fecApart", fn := fun _ => fun
  | [d1, d2] => { results := [.lit (.bool false)], args := [d1, d2] }
  | _ => none }
def FecApartWrongFalsely : Prop := fecApartRow.holds Tryd.pinned (OpenSpec.ofChange fecApartWrong)

/-- 'clarionlaw11.FecWrites': WHATEVER THE INPUT: true; the input reads as it did. -/
def fecWritesSpec : ChangeSpec := { name := "fecWrites", fn := fun _ => fun
  | [d] => { results := [.lit (.bool true)], args := [d] }
  | _ => none }
def fecWritesRow : OpenClaim := { program := "ytfadhgbhdoddpaadoor", sum := "094024f1f9d9b6d2024fa282cb188ac27b8666fd2203c4caacda535b3f0ab9b2", func := "clarion/clarionlaw11.FecWrites", spec := "fecWrites", unfollowed := true, recurses := true, named := ["clarion/fec.sizes"], apart := false, laid := [("clarion/fec.sizes", laid_clarion_fec_sizes)] }
def FecWritesSaid : Prop := fecWritesRow.holds Tryd.pinned (OpenSpec.ofChange fecWritesSpec)

/-- ITS FALSE NEIGHBOUR: 'it returns false'. Refute it at one input. -/
def fecWritesWrong : ChangeSpec := { name := "fecWrites", fn := fun _ => fun
  | [d] => { results := [.lit (.bool false)], args := [d] }
  | _ => none }
def FecWritesWrongFalsely : Prop := fecWritesRow.holds Tryd.pinned (OpenSpec.ofChange fecWritesWrong)

/-- 'clarionlaw11.FecBack': WHATEVER THE INPUT: true; the input reads as it did. -/
def fecBackSpec : ChangeSpec := { name := "fecBack", fn := fun _ => fun
  | [d1, d2] => { results := [.lit (.bool true)], args := [d1, d2] }
  | _ => none }
def fecBackRow : OpenClaim := { program := "ytfadhgbhdoddpaadoor", sum := "094024f1f9d9b6d2024fa282cb188ac27b8666fd2203c4caacda535b3f0ab9b2", func := "clarion/clarionlaw11.FecBack", spec := "fecBack", unfollowed := true, recurses := true, named := ["clarion/fec.sizes"], apart := false, laid := [("clarion/fec.sizes", laid_clarion_fec_sizes)] }
def FecBackSaid : Prop := fecBackRow.holds Tryd.pinned (OpenSpec.ofChange fecBackSpec)

/-- ITS FALSE NEIGHBOUR: 'it returns false'. Refute it at one input. -/
def fecBackWrong : ChangeSpec := { name := "fecBack", fn := fun _ => fun
  | [d1, d2] => { results := [.lit (.bool false)], args := [d1, d2] }
  | _ => none }
def FecBackWrongFalsely : Prop := fecBackRow.holds Tryd.pinned (OpenSpec.ofChange fecBackWrong)

/-- 'clarionlaw11.FecTurned': WHATEVER THE INPUT: true; the input reads as it did. -/
def fecTurnedSpec : ChangeSpec := { name := "fecTurned", fn := fun _ => fun
  | [d1, d2, d3] => { results := [.lit (.bool true)], args := [d1, d2, d3] }
  | _ => none }
def fecTurnedRow : OpenClaim := { program := "ytfadhgbhdoddpaadoor", sum := "094024f1f9d9b6d2024fa282cb188ac27b8666fd2203c4caacda535b3f0ab9b2", func := "clarion/clarionlaw11.FecTurned", spec := "fecTurned", unfollowed := true, recurses := true, named := ["clarion/fec.sizes"], apart := false, laid := [("clarion/fec.sizes", laid_clarion_fec_sizes)] }
def FecTurnedSaid : Prop := fecTurnedRow.holds Tryd.pinned (OpenSpec.ofChange fecTurnedSpec)

/-- ITS FALSE NEIGHBOUR: 'it returns false'. Refute it at one input. -/
def fecTurnedWrong : ChangeSpec := { name := "fecTurned", fn := fun _ => fun
  | [d1, d2, d3] => { results := [.lit (.bool false)], args := [d1, d2, d3] }
  | _ => none }
def FecTurnedWrongFalsely : Prop := fecTurnedRow.holds Tryd.pinned (OpenSpec.ofChange fecTurnedWrong)

/-- 'clarionlaw11.FecReads': WHATEVER THE INPUT: true; the input reads as it did. -/
def fecReadsSpec : ChangeSpec := { name := "fecReads", fn := fun _ => fun
  | [d1, d2] => { results := [.lit (.bool true)], args := [d1, d2] }
  | _ => none }
def fecReadsRow : OpenClaim := { program := "ytfadhgbhdoddpaadoor", sum := "094024f1f9d9b6d2024fa282cb188ac27b8666fd2203c4caacda535b3f0ab9b2", func := "clarion/clarionlaw11.FecReads", spec := "fecReads", unfollowed := true, recurses := true, named := ["clarion/fec.sizes"], apart := false, laid := [("clarion/fec.sizes", laid_clarion_fec_sizes)] }
def FecReadsSaid : Prop := fecReadsRow.holds Tryd.pinned (OpenSpec.ofChange fecReadsSpec)

/-- ITS FALSE NEIGHBOUR: 'it returns false'. Refute it at one input. -/
def fecReadsWrong : ChangeSpec := { name := "fecReads", fn := fun _ => fun
  | [d1, d2] => { results := [.lit (.bool false)], args := [d1, d2] }
  | _ => none }
def FecReadsWrongFalsely : Prop := fecReadsRow.holds Tryd.pinned (OpenSpec.ofChange fecReadsWrong)

/- THE SECOND FORM. 'bulk': how many values and letters a reading holds, each counted each time it is reached (what is shared counts as often as it is met; a slice's spare places count too). A statement '..UptoSaid' is the law's where the arguments, and the package variables that the reading takes, are together of bulk at most 1048576: NARROWER than '..Said'. Prove '..Said' where nothing that the law and all that it calls make is longer than what came in: it says more and counts as full. Else prove '..UptoSaid'. A law counts once. -/
mutual
def uptoBulk {H : Type} : DataW H → Nat
  | .lit (.string bytes) => bytes.length + 1
  | .lit _ => 1
  | .nil => 1
  | .ptr d => uptoBulk d + 1
  | .slice elems spare => uptoBulkAll elems + uptoBulkAll spare + 1
  | .agg parts => uptoBulkAll parts + 1
  | .iface _ d => uptoBulk d + 1
  | .map entries => uptoBulkEntries entries + 1
  | .held _ => 1
def uptoBulkAll {H : Type} : List (DataW H) → Nat
  | [] => 0
  | d :: r => uptoBulk d + uptoBulkAll r
def uptoBulkEntries {H : Type} : List (Lit × DataW H) → Nat
  | [] => 0
  | x :: r => uptoBulkEntry x + uptoBulkEntries r
def uptoBulkEntry {H : Type} : Lit × DataW H → Nat
  | (.string bytes, d) => bytes.length + uptoBulk d + 1
  | (_, d) => uptoBulk d + 1
 end
def uptoSmall : (H : Type) → List (DataW H) → Bool := fun _ ds => decide (uptoBulkAll ds ≤ 1048576)
def OpenSpec.upto (s : _root_.Go.ChangeSpec) : _root_.Go.OpenSpec := { _root_.Go.OpenSpec.ofChange s with cond := some uptoSmall }

/-- 'clarionlaw11.FecApart', WHERE WHAT IT READS IS OF BULK AT MOST 1048576: true; the input reads as it did. -/
def fecApartUptoRow : OpenClaim := { program := "ytfadhgbhdoddpaadoor", sum := "094024f1f9d9b6d2024fa282cb188ac27b8666fd2203c4caacda535b3f0ab9b2", func := "clarion/clarionlaw11.FecApart", spec := "fecApart", unfollowed := true, recurses := true, named := ["clarion/fec.sizes"], apart := false, laid := [("clarion/fec.sizes", laid_clarion_fec_sizes)], narrowed := true }
def FecApartUptoSaid : Prop := fecApartUptoRow.holds Tryd.pinned (OpenSpec.upto fecApartSpec)

/-- 'clarionlaw11.FecWrites', WHERE WHAT IT READS IS OF BULK AT MOST 1048576: true; the input reads as it did. -/
def fecWritesUptoRow : OpenClaim := { program := "ytfadhgbhdoddpaadoor", sum := "094024f1f9d9b6d2024fa282cb188ac27b8666fd2203c4caacda535b3f0ab9b2", func := "clarion/clarionlaw11.FecWrites", spec := "fecWrites", unfollowed := true, recurses := true, named := ["clarion/fec.sizes"], apart := false, laid := [("clarion/fec.sizes", laid_clarion_fec_sizes)], narrowed := true }
def FecWritesUptoSaid : Prop := fecWritesUptoRow.holds Tryd.pinned (OpenSpec.upto fecWritesSpec)

/-- 'clarionlaw11.FecBack', WHERE WHAT IT READS IS OF BULK AT MOST 1048576: true; the input reads as it did. -/
def fecBackUptoRow : OpenClaim := { program := "ytfadhgbhdoddpaadoor", sum := "094024f1f9d9b6d2024fa282cb188ac27b8666fd2203c4caacda535b3f0ab9b2", func := "clarion/clarionlaw11.FecBack", spec := "fecBack", unfollowed := true, recurses := true, named := ["clarion/fec.sizes"], apart := false, laid := [("clarion/fec.sizes", laid_clarion_fec_sizes)], narrowed := true }
def FecBackUptoSaid : Prop := fecBackUptoRow.holds Tryd.pinned (OpenSpec.upto fecBackSpec)

/-- 'clarionlaw11.FecTurned', WHERE WHAT IT READS IS OF BULK AT MOST 1048576: true; the input reads as it did. -/
def fecTurnedUptoRow : OpenClaim := { program := "ytfadhgbhdoddpaadoor", sum := "094024f1f9d9b6d2024fa282cb188ac27b8666fd2203c4caacda535b3f0ab9b2", func := "clarion/clarionlaw11.FecTurned", spec := "fecTurned", unfollowed := true, recurses := true, named := ["clarion/fec.sizes"], apart := false, laid := [("clarion/fec.sizes", laid_clarion_fec_sizes)], narrowed := true }
def FecTurnedUptoSaid : Prop := fecTurnedUptoRow.holds Tryd.pinned (OpenSpec.upto fecTurnedSpec)

/-- 'clarionlaw11.FecReads', WHERE WHAT IT READS IS OF BULK AT MOST 1048576: true; the input reads as it did. -/
def fecReadsUptoRow : OpenClaim := { program := "ytfadhgbhdoddpaadoor", sum := "094024f1f9d9b6d2024fa282cb188ac27b8666fd2203c4caacda535b3f0ab9b2", func := "clarion/clarionlaw11.FecReads", spec := "fecReads", unfollowed := true, recurses := true, named := ["clarion/fec.sizes"], apart := false, laid := [("clarion/fec.sizes", laid_clarion_fec_sizes)], narrowed := true }
def FecReadsUptoSaid : Prop := fecReadsUptoRow.holds Tryd.pinned (OpenSpec.upto fecReadsSpec)

end Rows
end Go.Proofs.YtfadhgbhdoddpaaDoor
