/-
  NARROWER THAN 'FOR EVERY INPUT', by the rows' own cells (each row's printed sentence says how): SliceAgain: laid · SliceDeltas: laid · TopStamps: laid.
  DERIVED. THE GIVEN ROWS OF THIS SEAT. 3 by the template 'for every input the law returns true; each argument reads behind the call as it read before'; 0 by the template 'total and deterministic' (their statements: YtibjkhepedfpiaaGreatDoorTotals.lean).
  GIVEN WITH THE SEED: the statements are not yours to turn. If you find one false, say at which input.
  Laid BY PROGRAM, IN A SANDBOX (cutbox-rows.mjs): the forced cells as the released guide's own fill.sh prints them over the translation 96f42e4fca05d44a… (all of the seat's roots in one cut). By AI agents, Wed Nov 11 2026. No macro, syntax, notation, axiom, sorry.
-/
import Derived.Test.YtibjkhepedfpiaaGreatDoorChecked
import GoSem.PinnedTables
import GoSem.Claim
import GoSem.ClaimJoined
import GoSem.ClaimMapViews
import Derived.JoinedTies
import Derived.KernelRfl
namespace Go.Proofs.YtibjkhepedfpiaaGreatDoor
/- THE CELL 'sum', in the pinned program and in every row, IS THE sha256 OF THE DUMP (.gsa) THAT YtibjkhepedfpiaaGreatDoorProg.lean LOADS. Nothing in Lean hashes anything: it is a label: what it is worth is what the hold of that sum in a sandbox is worth. -/
noncomputable def Tryz.pinned : Pinned := { name := "ytibjkhepedfpiaagreatdoor", sum := "96f42e4fca05d44a915703e65aef3c6636f987f7c82eb44505ae1d3e215b9f7d", checked := Tryz.checked }
namespace Rows
def none {H : Type} : Left H := { results := [], args := [] }

/- WHAT THE LISTED PACKAGE-LEVEL VARIABLES READ AS WHEN THE CALL BEGINS. Each datum BY PROGRAM (the guide's laid-datum.mjs) off the statement by which the dump's own 'gosem.cut.vars' lays the variable. In a bare row this is a premise. The card (YtibjkhepedfpiaaGreatDoorCards.lean) ties it to the program's text. -/
def laid_clarion_fec_sizes {H : Type} : DataW H := .agg [.lit (.int .i64 256), .lit (.int .i64 512), .lit (.int .i64 768), .lit (.int .i64 1024)]
def laid_clarion_packet_widths {H : Type} : DataW H := .agg [.lit (.int .i64 8), .lit (.int .i64 1), .lit (.int .i64 1), .lit (.int .i64 1), .lit (.int .i64 13), .lit (.int .i64 2), .lit (.int .i64 2), .lit (.int .i64 4)]
def laid_unicode_utf8_acceptRanges {H : Type} : DataW H := .agg [.agg [.lit (.int .u8 128), .lit (.int .u8 191)], .agg [.lit (.int .u8 160), .lit (.int .u8 191)], .agg [.lit (.int .u8 128), .lit (.int .u8 159)], .agg [.lit (.int .u8 144), .lit (.int .u8 191)], .agg [.lit (.int .u8 128), .lit (.int .u8 143)], .agg [.lit (.int .u8 0), .lit (.int .u8 0)], .agg [.lit (.int .u8 0), .lit (.int .u8 0)], .agg [.lit (.int .u8 0), .lit (.int .u8 0)], .agg [.lit (.int .u8 0), .lit (.int .u8 0)], .agg [.lit (.int .u8 0), .lit (.int .u8 0)], .agg [.lit (.int .u8 0), .lit (.int .u8 0)], .agg [.lit (.int .u8 0), .lit (.int .u8 0)], .agg [.lit (.int .u8 0), .lit (.int .u8 0)], .agg [.lit (.int .u8 0), .lit (.int .u8 0)], .agg [.lit (.int .u8 0), .lit (.int .u8 0)], .agg [.lit (.int .u8 0), .lit (.int .u8 0)]]
def laid_clarion_frame_sizes {H : Type} : DataW H := .agg [.lit (.int .i64 256), .lit (.int .i64 512), .lit (.int .i64 768), .lit (.int .i64 1024)]
/-- One of Go's own tables, pinned by name: the form's constant. -/
def laid_unicode_utf8_first : DataW Unit := Go.Pinned.utf8First

/-- 'clarionlaw20.SliceAgain': WHATEVER THE INPUT: true; the input reads as it did. -/
def sliceAgainSpec : ChangeSpec := { name := "sliceAgain", fn := fun _ => fun
  | [d1, d2] => { results := [.lit (.bool true)], args := [d1, d2] }
  | _ => none }
def sliceAgainRow : OpenClaim := { program := "ytibjkhepedfpiaagreatdoor", sum := "96f42e4fca05d44a915703e65aef3c6636f987f7c82eb44505ae1d3e215b9f7d", func := "clarion/clarionlaw20.SliceAgain", spec := "sliceAgain", inPlace := ["internal/abi.NoEscape", "internal/bytealg.MakeNoZero", "slices.overlaps[int]"], unfollowed := true, recurses := true, named := ["clarion/fec.sizes"], apart := false, laid := [("clarion/fec.sizes", laid_clarion_fec_sizes)] }
def SliceAgainSaid : Prop := sliceAgainRow.holds Tryz.pinned (OpenSpec.ofChange sliceAgainSpec)

/-- ITS FALSE NEIGHBOUR: 'it returns false'. Refute it at one input. -/
def sliceAgainWrong : ChangeSpec := { name := "sliceAgain", fn := fun _ => fun
  | [d1, d2] => { results := [.lit (.bool false)], args := [d1, d2] }
  | _ => none }
def SliceAgainWrongFalsely : Prop := sliceAgainRow.holds Tryz.pinned (OpenSpec.ofChange sliceAgainWrong)

/-- 'clarionlaw20.SliceDeltas': WHATEVER THE INPUT: true; the input reads as it did. -/
def sliceDeltasSpec : ChangeSpec := { name := "sliceDeltas", fn := fun _ => fun
  | [d1, d2] => { results := [.lit (.bool true)], args := [d1, d2] }
  | _ => none }
def sliceDeltasRow : OpenClaim := { program := "ytibjkhepedfpiaagreatdoor", sum := "96f42e4fca05d44a915703e65aef3c6636f987f7c82eb44505ae1d3e215b9f7d", func := "clarion/clarionlaw20.SliceDeltas", spec := "sliceDeltas", inPlace := ["internal/abi.NoEscape", "internal/bytealg.MakeNoZero", "slices.overlaps[int]"], unfollowed := true, recurses := true, named := ["clarion/fec.sizes", "clarion/packet.widths"], apart := false, laid := [("clarion/packet.widths", laid_clarion_packet_widths), ("clarion/fec.sizes", laid_clarion_fec_sizes)] }
def SliceDeltasSaid : Prop := sliceDeltasRow.holds Tryz.pinned (OpenSpec.ofChange sliceDeltasSpec)

/-- ITS FALSE NEIGHBOUR: 'it returns false'. Refute it at one input. -/
def sliceDeltasWrong : ChangeSpec := { name := "sliceDeltas", fn := fun _ => fun
  | [d1, d2] => { results := [.lit (.bool false)], args := [d1, d2] }
  | _ => none }
def SliceDeltasWrongFalsely : Prop := sliceDeltasRow.holds Tryz.pinned (OpenSpec.ofChange sliceDeltasWrong)

/-- 'clariontop.TopStamps': WHATEVER THE INPUT: true; the input reads as it did. -/
def topStampsSpec : ChangeSpec := { name := "topStamps", fn := fun _ => fun
  | [d1, d2, d3] => { results := [.lit (.bool true)], args := [d1, d2, d3] }
  | _ => none }
def topStampsRow : OpenClaim := { program := "ytibjkhepedfpiaagreatdoor", sum := "96f42e4fca05d44a915703e65aef3c6636f987f7c82eb44505ae1d3e215b9f7d", func := "clarion/clariontop.TopStamps", spec := "topStamps", inPlace := ["internal/abi.NoEscape", "internal/bytealg.MakeNoZero", "internal/bytealg.IndexByteString", "internal/bytealg.IndexString", "slices.overlaps[int]"], unfollowed := true, recurses := true, named := ["clarion/frame.sizes", "unicode/utf8.first", "unicode/utf8.acceptRanges", "clarion/fec.sizes", "clarion/packet.widths", "internal/bytealg.MaxLen"], apart := false, laid := [("unicode/utf8.acceptRanges", laid_unicode_utf8_acceptRanges), ("clarion/packet.widths", laid_clarion_packet_widths), ("clarion/frame.sizes", laid_clarion_frame_sizes), ("clarion/fec.sizes", laid_clarion_fec_sizes), ("unicode/utf8.first", laid_unicode_utf8_first)] }
def TopStampsSaid : Prop := topStampsRow.holds Tryz.pinned (OpenSpec.ofChange topStampsSpec)

/-- ITS FALSE NEIGHBOUR: 'it returns false'. Refute it at one input. -/
def topStampsWrong : ChangeSpec := { name := "topStamps", fn := fun _ => fun
  | [d1, d2, d3] => { results := [.lit (.bool false)], args := [d1, d2, d3] }
  | _ => none }
def TopStampsWrongFalsely : Prop := topStampsRow.holds Tryz.pinned (OpenSpec.ofChange topStampsWrong)

/- THE SECOND FORM. 'bulk': how many values and letters a reading holds, each counted each time it is reached (what is shared counts as often as it is met; a slice's spare places count too). A statement '..UptoSaid' is the law's where the arguments, and the package variables that the reading takes, are together of bulk at most 1048576: NARROWER than '..Said'. Prove '..Said' where nothing that the law and all that it calls make is longer than what came in: it says more and counts as full. Else prove '..UptoSaid'. A law counts once. -/
mutual
def uptoBulk {H : Type} : DataW H → Nat
  | .lit (.string bytes) => bytes.length + 1
  | .lit _ => 1
  | .nil => 1
  | .ptr d => uptoBulk d + 1
  | .slice elems spare => uptoBulkAll elems + uptoBulkAll spare + 1
  | .agg parts => uptoBulkAll parts + 1
  | .iface _ d => uptoBulk d + 1
  | .map entries => uptoBulkEntries entries + 1
  | .held _ => 1
def uptoBulkAll {H : Type} : List (DataW H) → Nat
  | [] => 0
  | d :: r => uptoBulk d + uptoBulkAll r
def uptoBulkEntries {H : Type} : List (Lit × DataW H) → Nat
  | [] => 0
  | x :: r => uptoBulkEntry x + uptoBulkEntries r
def uptoBulkEntry {H : Type} : Lit × DataW H → Nat
  | (.string bytes, d) => bytes.length + uptoBulk d + 1
  | (_, d) => uptoBulk d + 1
 end
def uptoSmall : (H : Type) → List (DataW H) → Bool := fun _ ds => decide (uptoBulkAll ds ≤ 1048576)
def OpenSpec.upto (s : _root_.Go.ChangeSpec) : _root_.Go.OpenSpec := { _root_.Go.OpenSpec.ofChange s with cond := some uptoSmall }

/-- 'clarionlaw20.SliceAgain', WHERE WHAT IT READS IS OF BULK AT MOST 1048576: true; the input reads as it did. -/
def sliceAgainUptoRow : OpenClaim := { program := "ytibjkhepedfpiaagreatdoor", sum := "96f42e4fca05d44a915703e65aef3c6636f987f7c82eb44505ae1d3e215b9f7d", func := "clarion/clarionlaw20.SliceAgain", spec := "sliceAgain", inPlace := ["internal/abi.NoEscape", "internal/bytealg.MakeNoZero", "slices.overlaps[int]"], unfollowed := true, recurses := true, named := ["clarion/fec.sizes"], apart := false, laid := [("clarion/fec.sizes", laid_clarion_fec_sizes)], narrowed := true }
def SliceAgainUptoSaid : Prop := sliceAgainUptoRow.holds Tryz.pinned (OpenSpec.upto sliceAgainSpec)

/-- 'clarionlaw20.SliceDeltas', WHERE WHAT IT READS IS OF BULK AT MOST 1048576: true; the input reads as it did. -/
def sliceDeltasUptoRow : OpenClaim := { program := "ytibjkhepedfpiaagreatdoor", sum := "96f42e4fca05d44a915703e65aef3c6636f987f7c82eb44505ae1d3e215b9f7d", func := "clarion/clarionlaw20.SliceDeltas", spec := "sliceDeltas", inPlace := ["internal/abi.NoEscape", "internal/bytealg.MakeNoZero", "slices.overlaps[int]"], unfollowed := true, recurses := true, named := ["clarion/fec.sizes", "clarion/packet.widths"], apart := false, laid := [("clarion/packet.widths", laid_clarion_packet_widths), ("clarion/fec.sizes", laid_clarion_fec_sizes)], narrowed := true }
def SliceDeltasUptoSaid : Prop := sliceDeltasUptoRow.holds Tryz.pinned (OpenSpec.upto sliceDeltasSpec)

/-- 'clariontop.TopStamps', WHERE WHAT IT READS IS OF BULK AT MOST 1048576: true; the input reads as it did. -/
def topStampsUptoRow : OpenClaim := { program := "ytibjkhepedfpiaagreatdoor", sum := "96f42e4fca05d44a915703e65aef3c6636f987f7c82eb44505ae1d3e215b9f7d", func := "clarion/clariontop.TopStamps", spec := "topStamps", inPlace := ["internal/abi.NoEscape", "internal/bytealg.MakeNoZero", "internal/bytealg.IndexByteString", "internal/bytealg.IndexString", "slices.overlaps[int]"], unfollowed := true, recurses := true, named := ["clarion/frame.sizes", "unicode/utf8.first", "unicode/utf8.acceptRanges", "clarion/fec.sizes", "clarion/packet.widths", "internal/bytealg.MaxLen"], apart := false, laid := [("unicode/utf8.acceptRanges", laid_unicode_utf8_acceptRanges), ("clarion/packet.widths", laid_clarion_packet_widths), ("clarion/frame.sizes", laid_clarion_frame_sizes), ("clarion/fec.sizes", laid_clarion_fec_sizes), ("unicode/utf8.first", laid_unicode_utf8_first)], narrowed := true }
def TopStampsUptoSaid : Prop := topStampsUptoRow.holds Tryz.pinned (OpenSpec.upto topStampsSpec)

end Rows
end Go.Proofs.YtibjkhepedfpiaaGreatDoor
