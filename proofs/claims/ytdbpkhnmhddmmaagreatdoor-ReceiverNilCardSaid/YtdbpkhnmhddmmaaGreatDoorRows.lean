/-
  NARROWER THAN 'FOR EVERY INPUT', by the rows' own cells (each row's printed sentence says how): ReceiverPlays: laid · ReceiverAny: laid · ReceiverNil: laid · ReceiverSleeps: laid · ReceiverFrames: laid.
  DERIVED. THE GIVEN ROWS OF THIS SEAT. 5 by the template 'for every input the law returns true; each argument reads behind the call as it read before'; 0 by the template 'total and deterministic' (their statements: YtdbpkhnmhddmmaaGreatDoorTotals.lean).
  GIVEN WITH THE SEED: the statements are not yours to turn. If you find one false, say at which input.
  Laid BY PROGRAM, IN A SANDBOX (cutbox-rows.mjs): the forced cells as the released guide's own fill.sh prints them over the translation 3038020a8de989d3… (all of the seat's roots in one cut). By AI agents, Wed Nov 11 2026. No macro, syntax, notation, axiom, sorry.
-/
import Derived.Test.YtdbpkhnmhddmmaaGreatDoorChecked
import GoSem.PinnedTables
import GoSem.Claim
import GoSem.ClaimJoined
import GoSem.ClaimMapViews
import Derived.JoinedTies
import Derived.KernelRfl
namespace Go.Proofs.YtdbpkhnmhddmmaaGreatDoor
/- THE CELL 'sum', in the pinned program and in every row, IS THE sha256 OF THE DUMP (.gsa) THAT YtdbpkhnmhddmmaaGreatDoorProg.lean LOADS. Nothing in Lean hashes anything: it is a label: what it is worth is what the hold of that sum in a sandbox is worth. -/
noncomputable def Tryz.pinned : Pinned := { name := "ytdbpkhnmhddmmaagreatdoor", sum := "3038020a8de989d3f535cf202d93a6e625658d0c2c557948d0f2365c31ba7e35", checked := Tryz.checked }
namespace Rows
def none {H : Type} : Left H := { results := [], args := [] }

/- WHAT THE LISTED PACKAGE-LEVEL VARIABLES READ AS WHEN THE CALL BEGINS. Each datum BY PROGRAM (the guide's laid-datum.mjs) off the statement by which the dump's own 'gosem.cut.vars' lays the variable. In a bare row this is a premise. The card (YtdbpkhnmhddmmaaGreatDoorCards.lean) ties it to the program's text. -/
def laid_unicode_utf8_acceptRanges {H : Type} : DataW H := .agg [.agg [.lit (.int .u8 128), .lit (.int .u8 191)], .agg [.lit (.int .u8 160), .lit (.int .u8 191)], .agg [.lit (.int .u8 128), .lit (.int .u8 159)], .agg [.lit (.int .u8 144), .lit (.int .u8 191)], .agg [.lit (.int .u8 128), .lit (.int .u8 143)], .agg [.lit (.int .u8 0), .lit (.int .u8 0)], .agg [.lit (.int .u8 0), .lit (.int .u8 0)], .agg [.lit (.int .u8 0), .lit (.int .u8 0)], .agg [.lit (.int .u8 0), .lit (.int .u8 0)], .agg [.lit (.int .u8 0), .lit (.int .u8 0)], .agg [.lit (.int .u8 0), .lit (.int .u8 0)], .agg [.lit (.int .u8 0), .lit (.int .u8 0)], .agg [.lit (.int .u8 0), .lit (.int .u8 0)], .agg [.lit (.int .u8 0), .lit (.int .u8 0)], .agg [.lit (.int .u8 0), .lit (.int .u8 0)], .agg [.lit (.int .u8 0), .lit (.int .u8 0)]]
def laid_clarion_packet_widths {H : Type} : DataW H := .agg [.lit (.int .i64 8), .lit (.int .i64 1), .lit (.int .i64 1), .lit (.int .i64 1), .lit (.int .i64 13), .lit (.int .i64 2), .lit (.int .i64 2), .lit (.int .i64 4)]
def laid_clarion_frame_sizes {H : Type} : DataW H := .agg [.lit (.int .i64 256), .lit (.int .i64 512), .lit (.int .i64 768), .lit (.int .i64 1024)]
def laid_clarion_fec_sizes {H : Type} : DataW H := .agg [.lit (.int .i64 256), .lit (.int .i64 512), .lit (.int .i64 768), .lit (.int .i64 1024)]
def laid_clarion_table_sizes {H : Type} : DataW H := .agg [.lit (.int .i64 256), .lit (.int .i64 512), .lit (.int .i64 768), .lit (.int .i64 1024)]
/-- One of Go's own tables, pinned by name: the form's constant. -/
def laid_unicode_utf8_first : DataW Unit := Go.Pinned.utf8First

/-- 'clarionlaw22.ReceiverPlays': WHATEVER THE INPUT: true; the input reads as it did. -/
def receiverPlaysSpec : ChangeSpec := { name := "receiverPlays", fn := fun _ => fun
  | [d1, d2, d3] => { results := [.lit (.bool true)], args := [d1, d2, d3] }
  | _ => none }
def receiverPlaysRow : OpenClaim := { program := "ytdbpkhnmhddmmaagreatdoor", sum := "3038020a8de989d3f535cf202d93a6e625658d0c2c557948d0f2365c31ba7e35", func := "clarion/clarionlaw22.ReceiverPlays", spec := "receiverPlays", inPlace := ["internal/abi.NoEscape", "internal/bytealg.MakeNoZero", "internal/bytealg.IndexByteString", "internal/bytealg.IndexString", "slices.overlaps[int]"], unfollowed := true, recurses := true, named := ["clarion/frame.sizes", "unicode/utf8.first", "unicode/utf8.acceptRanges", "clarion/fec.sizes", "clarion/table.sizes", "clarion/packet.widths", "internal/bytealg.MaxLen"], apart := false, laid := [("unicode/utf8.acceptRanges", laid_unicode_utf8_acceptRanges), ("clarion/packet.widths", laid_clarion_packet_widths), ("clarion/frame.sizes", laid_clarion_frame_sizes), ("clarion/fec.sizes", laid_clarion_fec_sizes), ("clarion/table.sizes", laid_clarion_table_sizes), ("unicode/utf8.first", laid_unicode_utf8_first)] }
def ReceiverPlaysSaid : Prop := receiverPlaysRow.holds Tryz.pinned (OpenSpec.ofChange receiverPlaysSpec)

/-- ITS FALSE NEIGHBOUR: 'it returns false'. Refute it at one input. -/
def receiverPlaysWrong : ChangeSpec := { name := "receiverPlays", fn := fun _ => fun
  | [d1, d2, d3] => { results := [.lit (.bool false)], args := [d1, d2, d3] }
  | _ => none }
def ReceiverPlaysWrongFalsely : Prop := receiverPlaysRow.holds Tryz.pinned (OpenSpec.ofChange receiverPlaysWrong)

/-- 'clarionlaw22.ReceiverAny': WHATEVER THE INPUT: true; the input reads as it did. -/
def receiverAnySpec : ChangeSpec := { name := "receiverAny", fn := fun _ => fun
  | [d1, d2] => { results := [.lit (.bool true)], args := [d1, d2] }
  | _ => none }
def receiverAnyRow : OpenClaim := { program := "ytdbpkhnmhddmmaagreatdoor", sum := "3038020a8de989d3f535cf202d93a6e625658d0c2c557948d0f2365c31ba7e35", func := "clarion/clarionlaw22.ReceiverAny", spec := "receiverAny", inPlace := ["internal/abi.NoEscape", "internal/bytealg.MakeNoZero", "internal/bytealg.IndexByteString", "internal/bytealg.IndexString", "slices.overlaps[int]"], unfollowed := true, recurses := true, named := ["clarion/frame.sizes", "unicode/utf8.first", "unicode/utf8.acceptRanges", "clarion/fec.sizes", "clarion/table.sizes", "clarion/packet.widths", "internal/bytealg.MaxLen"], apart := false, laid := [("unicode/utf8.acceptRanges", laid_unicode_utf8_acceptRanges), ("clarion/packet.widths", laid_clarion_packet_widths), ("clarion/frame.sizes", laid_clarion_frame_sizes), ("clarion/fec.sizes", laid_clarion_fec_sizes), ("clarion/table.sizes", laid_clarion_table_sizes), ("unicode/utf8.first", laid_unicode_utf8_first)] }
def ReceiverAnySaid : Prop := receiverAnyRow.holds Tryz.pinned (OpenSpec.ofChange receiverAnySpec)

/-- ITS FALSE NEIGHBOUR: 'it returns false'. Refute it at one input. -/
def receiverAnyWrong : ChangeSpec := { name := "receiverAny", fn := fun _ => fun
  | [d1, d2] => { results := [.lit (.bool false)], args := [d1, d2] }
  | _ => none }
def ReceiverAnyWrongFalsely : Prop := receiverAnyRow.holds Tryz.pinned (OpenSpec.ofChange receiverAnyWrong)

/-- 'clarionlaw22.ReceiverNil': WHATEVER THE INPUT: true; the input reads as it did. -/
def receiverNilSpec : ChangeSpec := { name := "receiverNil", fn := fun _ => fun
  | [d] => { results := [.lit (.bool true)], args := [d] }
  | _ => none }
def receiverNilRow : OpenClaim := { program := "ytdbpkhnmhddmmaagreatdoor", sum := "3038020a8de989d3f535cf202d93a6e625658d0c2c557948d0f2365c31ba7e35", func := "clarion/clarionlaw22.ReceiverNil", spec := "receiverNil", inPlace := ["internal/abi.NoEscape", "internal/bytealg.MakeNoZero", "internal/bytealg.IndexByteString", "internal/bytealg.IndexString", "slices.overlaps[int]"], unfollowed := true, recurses := true, named := ["clarion/frame.sizes", "unicode/utf8.first", "unicode/utf8.acceptRanges", "clarion/fec.sizes", "clarion/table.sizes", "clarion/packet.widths", "internal/bytealg.MaxLen"], apart := false, laid := [("unicode/utf8.acceptRanges", laid_unicode_utf8_acceptRanges), ("clarion/packet.widths", laid_clarion_packet_widths), ("clarion/frame.sizes", laid_clarion_frame_sizes), ("clarion/fec.sizes", laid_clarion_fec_sizes), ("clarion/table.sizes", laid_clarion_table_sizes), ("unicode/utf8.first", laid_unicode_utf8_first)] }
def ReceiverNilSaid : Prop := receiverNilRow.holds Tryz.pinned (OpenSpec.ofChange receiverNilSpec)

/-- ITS FALSE NEIGHBOUR: 'it returns false'. Refute it at one input. -/
def receiverNilWrong : ChangeSpec := { name := "receiverNil", fn := fun _ => fun
  | [d] => { results := [.lit (.bool false)], args := [d] }
  | _ => none }
def ReceiverNilWrongFalsely : Prop := receiverNilRow.holds Tryz.pinned (OpenSpec.ofChange receiverNilWrong)

/-- 'clarionlaw22.ReceiverSleeps': WHATEVER THE INPUT: true; the input reads as it did. -/
def receiverSleepsSpec : ChangeSpec := { name := "receiverSleeps", fn := fun _ => fun
  | [d] => { results := [.lit (.bool true)], args := [d] }
  | _ => none }
def receiverSleepsRow : OpenClaim := { program := "ytdbpkhnmhddmmaagreatdoor", sum := "3038020a8de989d3f535cf202d93a6e625658d0c2c557948d0f2365c31ba7e35", func := "clarion/clarionlaw22.ReceiverSleeps", spec := "receiverSleeps", inPlace := ["internal/abi.NoEscape", "internal/bytealg.MakeNoZero", "internal/bytealg.IndexByteString", "internal/bytealg.IndexString", "slices.overlaps[int]"], unfollowed := true, recurses := true, named := ["clarion/frame.sizes", "unicode/utf8.first", "unicode/utf8.acceptRanges", "clarion/fec.sizes", "clarion/table.sizes", "clarion/packet.widths", "internal/bytealg.MaxLen"], apart := false, laid := [("unicode/utf8.acceptRanges", laid_unicode_utf8_acceptRanges), ("clarion/packet.widths", laid_clarion_packet_widths), ("clarion/frame.sizes", laid_clarion_frame_sizes), ("clarion/fec.sizes", laid_clarion_fec_sizes), ("clarion/table.sizes", laid_clarion_table_sizes), ("unicode/utf8.first", laid_unicode_utf8_first)] }
def ReceiverSleepsSaid : Prop := receiverSleepsRow.holds Tryz.pinned (OpenSpec.ofChange receiverSleepsSpec)

/-- ITS FALSE NEIGHBOUR: 'it returns false'. Refute it at one input. -/
def receiverSleepsWrong : ChangeSpec := { name := "receiverSleeps", fn := fun _ => fun
  | [d] => { results := [.lit (.bool false)], args := [d] }
  | _ => none }
def ReceiverSleepsWrongFalsely : Prop := receiverSleepsRow.holds Tryz.pinned (OpenSpec.ofChange receiverSleepsWrong)

/-- 'clarionlaw22.ReceiverFrames': WHATEVER THE INPUT: true; the input reads as it did. -/
def receiverFramesSpec : ChangeSpec := { name := "receiverFrames", fn := fun _ => fun
  | [d1, d2] => { results := [.lit (.bool true)], args := [d1, d2] }
  | _ => none }
def receiverFramesRow : OpenClaim := { program := "ytdbpkhnmhddmmaagreatdoor", sum := "3038020a8de989d3f535cf202d93a6e625658d0c2c557948d0f2365c31ba7e35", func := "clarion/clarionlaw22.ReceiverFrames", spec := "receiverFrames", inPlace := ["internal/abi.NoEscape", "internal/bytealg.MakeNoZero", "internal/bytealg.IndexByteString", "internal/bytealg.IndexString", "slices.overlaps[int]"], unfollowed := true, recurses := true, named := ["clarion/frame.sizes", "unicode/utf8.first", "unicode/utf8.acceptRanges", "clarion/fec.sizes", "clarion/table.sizes", "clarion/packet.widths", "internal/bytealg.MaxLen"], apart := false, laid := [("unicode/utf8.acceptRanges", laid_unicode_utf8_acceptRanges), ("clarion/packet.widths", laid_clarion_packet_widths), ("clarion/frame.sizes", laid_clarion_frame_sizes), ("clarion/fec.sizes", laid_clarion_fec_sizes), ("clarion/table.sizes", laid_clarion_table_sizes), ("unicode/utf8.first", laid_unicode_utf8_first)] }
def ReceiverFramesSaid : Prop := receiverFramesRow.holds Tryz.pinned (OpenSpec.ofChange receiverFramesSpec)

/-- ITS FALSE NEIGHBOUR: 'it returns false'. Refute it at one input. -/
def receiverFramesWrong : ChangeSpec := { name := "receiverFrames", fn := fun _ => fun
  | [d1, d2] => { results := [.lit (.bool false)], args := [d1, d2] }
  | _ => none }
def ReceiverFramesWrongFalsely : Prop := receiverFramesRow.holds Tryz.pinned (OpenSpec.ofChange receiverFramesWrong)

/- THE SECOND FORM. 'bulk': how many values and letters a reading holds, each counted each time it is reached (what is shared counts as often as it is met; a slice's spare places count too). A statement '..UptoSaid' is the law's where the arguments, and the package variables that the reading takes, are together of bulk at most 1048576: NARROWER than '..Said'. Prove '..Said' where nothing that the law and all that it calls make is longer than what came in: it says more and counts as full. Else prove '..UptoSaid'. A law counts once. -/
mutual
def uptoBulk {H : Type} : DataW H → Nat
  | .lit (.string bytes) => bytes.length + 1
  | .lit _ => 1
  | .nil => 1
  | .ptr d => uptoBulk d + 1
  | .slice elems spare => uptoBulkAll elems + uptoBulkAll spare + 1
  | .agg parts => uptoBulkAll parts + 1
  | .iface _ d => uptoBulk d + 1
  | .map entries => uptoBulkEntries entries + 1
  | .held _ => 1
def uptoBulkAll {H : Type} : List (DataW H) → Nat
  | [] => 0
  | d :: r => uptoBulk d + uptoBulkAll r
def uptoBulkEntries {H : Type} : List (Lit × DataW H) → Nat
  | [] => 0
  | x :: r => uptoBulkEntry x + uptoBulkEntries r
def uptoBulkEntry {H : Type} : Lit × DataW H → Nat
  | (.string bytes, d) => bytes.length + uptoBulk d + 1
  | (_, d) => uptoBulk d + 1
 end
def uptoSmall : (H : Type) → List (DataW H) → Bool := fun _ ds => decide (uptoBulkAll ds ≤ 1048576)
def OpenSpec.upto (s : _root_.Go.ChangeSpec) : _root_.Go.OpenSpec := { _root_.Go.OpenSpec.ofChange s with cond := some uptoSmall }

/-- 'clarionlaw22.ReceiverPlays', WHERE WHAT IT READS IS OF BULK AT MOST 1048576: true; the input reads as it did. -/
def receiverPlaysUptoRow : OpenClaim := { program := "ytdbpkhnmhddmmaagreatdoor", sum := "3038020a8de989d3f535cf202d93a6e625658d0c2c557948d0f2365c31ba7e35", func := "clarion/clarionlaw22.ReceiverPlays", spec := "receiverPlays", inPlace := ["internal/abi.NoEscape", "internal/bytealg.MakeNoZero", "internal/bytealg.IndexByteString", "internal/bytealg.IndexString", "slices.overlaps[int]"], unfollowed := true, recurses := true, named := ["clarion/frame.sizes", "unicode/utf8.first", "unicode/utf8.acceptRanges", "clarion/fec.sizes", "clarion/table.sizes", "clarion/packet.widths", "internal/bytealg.MaxLen"], apart := false, laid := [("unicode/utf8.acceptRanges", laid_unicode_utf8_acceptRanges), ("clarion/packet.widths", laid_clarion_packet_widths), ("clarion/frame.sizes", laid_clarion_frame_sizes), ("clarion/fec.sizes", laid_clarion_fec_sizes), ("clarion/table.sizes", laid_clarion_table_sizes), ("unicode/utf8.first", laid_unicode_utf8_first)], narrowed := true }
def ReceiverPlaysUptoSaid : Prop := receiverPlaysUptoRow.holds Tryz.pinned (OpenSpec.upto receiverPlaysSpec)

/-- 'clarionlaw22.ReceiverAny', WHERE WHAT IT READS IS OF BULK AT MOST 1048576: true; the input reads as it did. -/
def receiverAnyUptoRow : OpenClaim := { program := "ytdbpkhnmhddmmaagreatdoor", sum := "3038020a8de989d3f535cf202d93a6e625658d0c2c557948d0f2365c31ba7e35", func := "clarion/clarionlaw22.ReceiverAny", spec := "receiverAny", inPlace := ["internal/abi.NoEscape", "internal/bytealg.MakeNoZero", "internal/bytealg.IndexByteString", "internal/bytealg.IndexString", "slices.overlaps[int]"], unfollowed := true, recurses := true, named := ["clarion/frame.sizes", "unicode/utf8.first", "unicode/utf8.acceptRanges", "clarion/fec.sizes", "clarion/table.sizes", "clarion/packet.widths", "internal/bytealg.MaxLen"], apart := false, laid := [("unicode/utf8.acceptRanges", laid_unicode_utf8_acceptRanges), ("clarion/packet.widths", laid_clarion_packet_widths), ("clarion/frame.sizes", laid_clarion_frame_sizes), ("clarion/fec.sizes", laid_clarion_fec_sizes), ("clarion/table.sizes", laid_clarion_table_sizes), ("unicode/utf8.first", laid_unicode_utf8_first)], narrowed := true }
def ReceiverAnyUptoSaid : Prop := receiverAnyUptoRow.holds Tryz.pinned (OpenSpec.upto receiverAnySpec)

/-- 'clarionlaw22.ReceiverNil', WHERE WHAT IT READS IS OF BULK AT MOST 1048576: true; the input reads as it did. -/
def receiverNilUptoRow : OpenClaim := { program := "ytdbpkhnmhddmmaagreatdoor", sum := "3038020a8de989d3f535cf202d93a6e625658d0c2c557948d0f2365c31ba7e35", func := "clarion/clarionlaw22.ReceiverNil", spec := "receiverNil", inPlace := ["internal/abi.NoEscape", "internal/bytealg.MakeNoZero", "internal/bytealg.IndexByteString", "internal/bytealg.IndexString", "slices.overlaps[int]"], unfollowed := true, recurses := true, named := ["clarion/frame.sizes", "unicode/utf8.first", "unicode/utf8.acceptRanges", "clarion/fec.sizes", "clarion/table.sizes", "clarion/packet.widths", "internal/bytealg.MaxLen"], apart := false, laid := [("unicode/utf8.acceptRanges", laid_unicode_utf8_acceptRanges), ("clarion/packet.widths", laid_clarion_packet_widths), ("clarion/frame.sizes", laid_clarion_frame_sizes), ("clarion/fec.sizes", laid_clarion_fec_sizes), ("clarion/table.sizes", laid_clarion_table_sizes), ("unicode/utf8.first", laid_unicode_utf8_first)], narrowed := true }
def ReceiverNilUptoSaid : Prop := receiverNilUptoRow.holds Tryz.pinned (OpenSpec.upto receiverNilSpec)

/-- 'clarionlaw22.ReceiverSleeps', WHERE WHAT IT READS IS OF BULK AT MOST 1048576: true; the input reads as it did. -/
def receiverSleepsUptoRow : OpenClaim := { program := "ytdbpkhnmhddmmaagreatdoor", sum := "3038020a8de989d3f535cf202d93a6e625658d0c2c557948d0f2365c31ba7e35", func := "clarion/clarionlaw22.ReceiverSleeps", spec := "receiverSleeps", inPlace := ["internal/abi.NoEscape", "internal/bytealg.MakeNoZero", "internal/bytealg.IndexByteString", "internal/bytealg.IndexString", "slices.overlaps[int]"], unfollowed := true, recurses := true, named := ["clarion/frame.sizes", "unicode/utf8.first", "unicode/utf8.acceptRanges", "clarion/fec.sizes", "clarion/table.sizes", "clarion/packet.widths", "internal/bytealg.MaxLen"], apart := false, laid := [("unicode/utf8.acceptRanges", laid_unicode_utf8_acceptRanges), ("clarion/packet.widths", laid_clarion_packet_widths), ("clarion/frame.sizes", laid_clarion_frame_sizes), ("clarion/fec.sizes", laid_clarion_fec_sizes), ("clarion/table.sizes", laid_clarion_table_sizes), ("unicode/utf8.first", laid_unicode_utf8_first)], narrowed := true }
def ReceiverSleepsUptoSaid : Prop := receiverSleepsUptoRow.holds Tryz.pinned (OpenSpec.upto receiverSleepsSpec)

/-- 'clarionlaw22.ReceiverFrames', WHERE WHAT IT READS IS OF BULK AT MOST 1048576: true; the input reads as it did. -/
def receiverFramesUptoRow : OpenClaim := { program := "ytdbpkhnmhddmmaagreatdoor", sum := "3038020a8de989d3f535cf202d93a6e625658d0c2c557948d0f2365c31ba7e35", func := "clarion/clarionlaw22.ReceiverFrames", spec := "receiverFrames", inPlace := ["internal/abi.NoEscape", "internal/bytealg.MakeNoZero", "internal/bytealg.IndexByteString", "internal/bytealg.IndexString", "slices.overlaps[int]"], unfollowed := true, recurses := true, named := ["clarion/frame.sizes", "unicode/utf8.first", "unicode/utf8.acceptRanges", "clarion/fec.sizes", "clarion/table.sizes", "clarion/packet.widths", "internal/bytealg.MaxLen"], apart := false, laid := [("unicode/utf8.acceptRanges", laid_unicode_utf8_acceptRanges), ("clarion/packet.widths", laid_clarion_packet_widths), ("clarion/frame.sizes", laid_clarion_frame_sizes), ("clarion/fec.sizes", laid_clarion_fec_sizes), ("clarion/table.sizes", laid_clarion_table_sizes), ("unicode/utf8.first", laid_unicode_utf8_first)], narrowed := true }
def ReceiverFramesUptoSaid : Prop := receiverFramesUptoRow.holds Tryz.pinned (OpenSpec.upto receiverFramesSpec)

end Rows
end Go.Proofs.YtdbpkhnmhddmmaaGreatDoor
