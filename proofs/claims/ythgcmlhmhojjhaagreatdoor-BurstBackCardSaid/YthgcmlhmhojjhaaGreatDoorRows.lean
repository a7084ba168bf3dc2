/-
  NARROWER THAN 'FOR EVERY INPUT', by the rows' own cells (each row's printed sentence says how): BurstTakes: laid · BurstBack: laid · BurstSafe: laid · BurstOrder: laid.
  DERIVED. THE GIVEN ROWS OF THIS SEAT. 4 by the template 'for every input the law returns true; each argument reads behind the call as it read before'; 0 by the template 'total and deterministic' (their statements: YthgcmlhmhojjhaaGreatDoorTotals.lean).
  GIVEN WITH THE SEED: the statements are not yours to turn. If you find one false, say at which input.
  Laid BY PROGRAM, IN A SANDBOX (cutbox-rows.mjs): the forced cells as the released guide's own fill.sh prints them over the translation f919483e4964ce04… (all of the seat's roots in one cut). By AI agents, Wed Nov 11 2026. No macro, syntax, notation, axiom, sorry.
-/
import Derived.Test.YthgcmlhmhojjhaaGreatDoorChecked
import GoSem.PinnedTables
import GoSem.Claim
import GoSem.ClaimJoined
import GoSem.ClaimMapViews
import Derived.JoinedTies
import Derived.KernelRfl
namespace Go.Proofs.YthgcmlhmhojjhaaGreatDoor
/- THE CELL 'sum', in the pinned program and in every row, IS THE sha256 OF THE DUMP (.gsa) THAT YthgcmlhmhojjhaaGreatDoorProg.lean LOADS. Nothing in Lean hashes anything: it is a label: what it is worth is what the hold of that sum in a sandbox is worth. -/
noncomputable def Tryz.pinned : Pinned := { name := "ythgcmlhmhojjhaagreatdoor", sum := "f919483e4964ce047f721d0cb074a60bb6418efce51d485dd7467ec2c486d2c7", checked := Tryz.checked }
namespace Rows
def none {H : Type} : Left H := { results := [], args := [] }

/- WHAT THE LISTED PACKAGE-LEVEL VARIABLES READ AS WHEN THE CALL BEGINS. Each datum BY PROGRAM (the guide's laid-datum.mjs) off the statement by which the dump's own 'gosem.cut.vars' lays the variable. In a bare row this is a premise. The card (YthgcmlhmhojjhaaGreatDoorCards.lean) ties it to the program's text. -/
def laid_unicode_utf8_acceptRanges {H : Type} : DataW H := .agg [.agg [.lit (.int .u8 128), .lit (.int .u8 191)], .agg [.lit (.int .u8 160), .lit (.int .u8 191)], .agg [.lit (.int .u8 128), .lit (.int .u8 159)], .agg [.lit (.int .u8 144), .lit (.int .u8 191)], .agg [.lit (.int .u8 128), .lit (.int .u8 143)], .agg [.lit (.int .u8 0), .lit (.int .u8 0)], .agg [.lit (.int .u8 0), .lit (.int .u8 0)], .agg [.lit (.int .u8 0), .lit (.int .u8 0)], .agg [.lit (.int .u8 0), .lit (.int .u8 0)], .agg [.lit (.int .u8 0), .lit (.int .u8 0)], .agg [.lit (.int .u8 0), .lit (.int .u8 0)], .agg [.lit (.int .u8 0), .lit (.int .u8 0)], .agg [.lit (.int .u8 0), .lit (.int .u8 0)], .agg [.lit (.int .u8 0), .lit (.int .u8 0)], .agg [.lit (.int .u8 0), .lit (.int .u8 0)], .agg [.lit (.int .u8 0), .lit (.int .u8 0)]]
def laid_clarion_frame_sizes {H : Type} : DataW H := .agg [.lit (.int .i64 256), .lit (.int .i64 512), .lit (.int .i64 768), .lit (.int .i64 1024)]
def laid_clarion_fec_sizes {H : Type} : DataW H := .agg [.lit (.int .i64 256), .lit (.int .i64 512), .lit (.int .i64 768), .lit (.int .i64 1024)]
def laid_clarion_table_sizes {H : Type} : DataW H := .agg [.lit (.int .i64 256), .lit (.int .i64 512), .lit (.int .i64 768), .lit (.int .i64 1024)]
/-- One of Go's own tables, pinned by name: the form's constant. -/
def laid_unicode_utf8_first : DataW Unit := Go.Pinned.utf8First

/-- 'clarionlaw19.BurstTakes': WHATEVER THE INPUT: true; the input reads as it did. -/
def burstTakesSpec : ChangeSpec := { name := "burstTakes", fn := fun _ => fun
  | [d1, d2] => { results := [.lit (.bool true)], args := [d1, d2] }
  | _ => none }
def burstTakesRow : OpenClaim := { program := "ythgcmlhmhojjhaagreatdoor", sum := "f919483e4964ce047f721d0cb074a60bb6418efce51d485dd7467ec2c486d2c7", func := "clarion/clarionlaw19.BurstTakes", spec := "burstTakes", inPlace := ["internal/abi.NoEscape", "internal/bytealg.MakeNoZero", "internal/bytealg.IndexByteString", "internal/bytealg.IndexString", "slices.overlaps[int]"], unfollowed := true, recurses := true, named := ["clarion/frame.sizes", "unicode/utf8.first", "unicode/utf8.acceptRanges", "clarion/fec.sizes", "clarion/table.sizes", "internal/bytealg.MaxLen"], apart := false, laid := [("unicode/utf8.acceptRanges", laid_unicode_utf8_acceptRanges), ("clarion/frame.sizes", laid_clarion_frame_sizes), ("clarion/fec.sizes", laid_clarion_fec_sizes), ("clarion/table.sizes", laid_clarion_table_sizes), ("unicode/utf8.first", laid_unicode_utf8_first)] }
def BurstTakesSaid : Prop := burstTakesRow.holds Tryz.pinned (OpenSpec.ofChange burstTakesSpec)

/-- ITS FALSE NEIGHBOUR: 'it returns false'. Refute it at one input. -/
def burstTakesWrong : ChangeSpec := { name := "burstTakes", fn := fun _ => fun
  | [d1, d2] => { results := [.lit (.bool false)], args := [d1, d2] }
  | _ => none }
def BurstTakesWrongFalsely : Prop := burstTakesRow.holds Tryz.pinned (OpenSpec.ofChange burstTakesWrong)

/-- 'clarionlaw19.BurstBack': WHATEVER THE INPUT: true; the input reads as it did. -/
def burstBackSpec : ChangeSpec := { name := "burstBack", fn := fun _ => fun
  | [d1, d2, d3] => { results := [.lit (.bool true)], args := [d1, d2, d3] }
  | _ => none }
def burstBackRow : OpenClaim := { program := "ythgcmlhmhojjhaagreatdoor", sum := "f919483e4964ce047f721d0cb074a60bb6418efce51d485dd7467ec2c486d2c7", func := "clarion/clarionlaw19.BurstBack", spec := "burstBack", inPlace := ["internal/abi.NoEscape", "internal/bytealg.MakeNoZero", "internal/bytealg.IndexByteString", "internal/bytealg.IndexString", "slices.overlaps[int]"], unfollowed := true, recurses := true, named := ["clarion/frame.sizes", "unicode/utf8.first", "unicode/utf8.acceptRanges", "clarion/fec.sizes", "clarion/table.sizes", "internal/bytealg.MaxLen"], apart := false, laid := [("unicode/utf8.acceptRanges", laid_unicode_utf8_acceptRanges), ("clarion/frame.sizes", laid_clarion_frame_sizes), ("clarion/fec.sizes", laid_clarion_fec_sizes), ("clarion/table.sizes", laid_clarion_table_sizes), ("unicode/utf8.first", laid_unicode_utf8_first)] }
def BurstBackSaid : Prop := burstBackRow.holds Tryz.pinned (OpenSpec.ofChange burstBackSpec)

/-- ITS FALSE NEIGHBOUR: 'it returns false'. Refute it at one input. -/
def burstBackWrong : ChangeSpec := { name := "burstBack", fn := fun _ => fun
  | [d1, d2, d3] => { results := [.lit (.bool false)], args := [d1, d2, d3] }
  | _ => none }
def BurstBackWrongFalsely : Prop := burstBackRow.holds Tryz.pinned (OpenSpec.ofChange burstBackWrong)

/-- 'clarionlaw19.BurstSafe': WHATEVER THE INPUT: true; the input reads as it did. -/
def burstSafeSpec : ChangeSpec := { name := "burstSafe", fn := fun _ => fun
  | [d1, d2, d3] => { results := [.lit (.bool true)], args := [d1, d2, d3] }
  | _ => none }
def burstSafeRow : OpenClaim := { program := "ythgcmlhmhojjhaagreatdoor", sum := "f919483e4964ce047f721d0cb074a60bb6418efce51d485dd7467ec2c486d2c7", func := "clarion/clarionlaw19.BurstSafe", spec := "burstSafe", inPlace := ["internal/abi.NoEscape", "internal/bytealg.MakeNoZero", "internal/bytealg.IndexByteString", "internal/bytealg.IndexString", "slices.overlaps[int]"], unfollowed := true, recurses := true, named := ["clarion/frame.sizes", "unicode/utf8.first", "unicode/utf8.acceptRanges", "clarion/fec.sizes", "clarion/table.sizes", "internal/bytealg.MaxLen"], apart := false, laid := [("unicode/utf8.acceptRanges", laid_unicode_utf8_acceptRanges), ("clarion/frame.sizes", laid_clarion_frame_sizes), ("clarion/fec.sizes", laid_clarion_fec_sizes), ("clarion/table.sizes", laid_clarion_table_sizes), ("unicode/utf8.first", laid_unicode_utf8_first)] }
def BurstSafeSaid : Prop := burstSafeRow.holds Tryz.pinned (OpenSpec.ofChange burstSafeSpec)

/-- ITS FALSE NEIGHBOUR: 'it returns false'. Refute it at one input. -/
def burstSafeWrong : ChangeSpec := { name := "burstSafe", fn := fun _ => fun
  | [d1, d2, d3] => { results := [.lit (.bool false)], args := [d1, d2, d3] }
  | _ => none }
def BurstSafeWrongFalsely : Prop := burstSafeRow.holds Tryz.pinned (OpenSpec.ofChange burstSafeWrong)

/-- 'clarionlaw19.BurstOrder': WHATEVER THE INPUT: true; the input reads as it did. -/
def burstOrderSpec : ChangeSpec := { name := "burstOrder", fn := fun _ => fun
  | [d1, d2, d3] => { results := [.lit (.bool true)], args := [d1, d2, d3] }
  | _ => none }
def burstOrderRow : OpenClaim := { program := "ythgcmlhmhojjhaagreatdoor", sum := "f919483e4964ce047f721d0cb074a60bb6418efce51d485dd7467ec2c486d2c7", func := "clarion/clarionlaw19.BurstOrder", spec := "burstOrder", inPlace := ["internal/abi.NoEscape", "internal/bytealg.MakeNoZero", "internal/bytealg.IndexByteString", "internal/bytealg.IndexString", "slices.overlaps[int]"], unfollowed := true, recurses := true, named := ["clarion/frame.sizes", "unicode/utf8.first", "unicode/utf8.acceptRanges", "clarion/fec.sizes", "clarion/table.sizes", "internal/bytealg.MaxLen"], apart := false, laid := [("unicode/utf8.acceptRanges", laid_unicode_utf8_acceptRanges), ("clarion/frame.sizes", laid_clarion_frame_sizes), ("clarion/fec.sizes", laid_clarion_fec_sizes), ("clarion/table.sizes", laid_clarion_table_sizes), ("unicode/utf8.first", laid_unicode_utf8_first)] }
def BurstOrderSaid : Prop := burstOrderRow.holds Tryz.pinned (OpenSpec.ofChange burstOrderSpec)

/-- ITS FALSE NEIGHBOUR: 'it returns false'. Refute it at one input. -/
def burstOrderWrong : ChangeSpec := { name := "burstOrder", fn := fun _ => fun
  | [d1, d2, d3] => { results := [.lit (.bool false)], args := [d1, d2, d3] }
  | _ => none }
def BurstOrderWrongFalsely : Prop := burstOrderRow.holds Tryz.pinned (OpenSpec.ofChange burstOrderWrong)

/- THE SECOND FORM. 'bulk': how many values and letters a reading holds, each counted each time it is reached (what is shared counts as often as it is met; a slice's spare places count too). A statement '..UptoSaid' is the law's where the arguments, and the package variables that the reading takes, are together of bulk at most 1048576: NARROWER than '..Said'. Prove '..Said' where nothing that the law and all that it calls make is longer than what came in: it says more and counts as full. Else prove '..UptoSaid'. A law counts once. -/
mutual
def uptoBulk {H : Type} : DataW H → Nat
  | .lit (.string bytes) => bytes.length + 1
  | .lit _ => 1
  | .nil => 1
  | .ptr d => uptoBulk d + 1
  | .slice elems spare => uptoBulkAll elems + uptoBulkAll spare + 1
  | .agg parts => uptoBulkAll parts + 1
  | .iface _ d => uptoBulk d + 1
  | .map entries => uptoBulkEntries entries + 1
  | .held _ => 1
def uptoBulkAll {H : Type} : List (DataW H) → Nat
  | [] => 0
  | d :: r => uptoBulk d + uptoBulkAll r
def uptoBulkEntries {H : Type} : List (Lit × DataW H) → Nat
  | [] => 0
  | x :: r => uptoBulkEntry x + uptoBulkEntries r
def uptoBulkEntry {H : Type} : Lit × DataW H → Nat
  | (.string bytes, d) => bytes.length + uptoBulk d + 1
  | (_, d) => uptoBulk d + 1
 end
def uptoSmall : (H : Type) → List (DataW H) → Bool := fun _ ds => decide (uptoBulkAll ds ≤ 1048576)
def OpenSpec.upto (s : _root_.Go.ChangeSpec) : _root_.Go.OpenSpec := { _root_.Go.OpenSpec.ofChange s with cond := some uptoSmall }

/-- 'clarionlaw19.BurstTakes', WHERE WHAT IT READS IS OF BULK AT MOST 1048576: true; the input reads as it did. -/
def burstTakesUptoRow : OpenClaim := { program := "ythgcmlhmhojjhaagreatdoor", sum := "f919483e4964ce047f721d0cb074a60bb6418efce51d485dd7467ec2c486d2c7", func := "clarion/clarionlaw19.BurstTakes", spec := "burstTakes", inPlace := ["internal/abi.NoEscape", "internal/bytealg.MakeNoZero", "internal/bytealg.IndexByteString", "internal/bytealg.IndexString", "slices.overlaps[int]"], unfollowed := true, recurses := true, named := ["clarion/frame.sizes", "unicode/utf8.first", "unicode/utf8.acceptRanges", "clarion/fec.sizes", "clarion/table.sizes", "internal/bytealg.MaxLen"], apart := false, laid := [("unicode/utf8.acceptRanges", laid_unicode_utf8_acceptRanges), ("clarion/frame.sizes", laid_clarion_frame_sizes), ("clarion/fec.sizes", laid_clarion_fec_sizes), ("clarion/table.sizes", laid_clarion_table_sizes), ("unicode/utf8.first", laid_unicode_utf8_first)], narrowed := true }
def BurstTakesUptoSaid : Prop := burstTakesUptoRow.holds Tryz.pinned (OpenSpec.upto burstTakesSpec)

/-- 'clarionlaw19.BurstBack', WHERE WHAT IT READS IS OF BULK AT MOST 1048576: true; the input reads as it did. -/
def burstBackUptoRow : OpenClaim := { program := "ythgcmlhmhojjhaagreatdoor", sum := "f919483e4964ce047f721d0cb074a60bb6418efce51d485dd7467ec2c486d2c7", func := "clarion/clarionlaw19.BurstBack", spec := "burstBack", inPlace := ["internal/abi.NoEscape", "internal/bytealg.MakeNoZero", "internal/bytealg.IndexByteString", "internal/bytealg.IndexString", "slices.overlaps[int]"], unfollowed := true, recurses := true, named := ["clarion/frame.sizes", "unicode/utf8.first", "unicode/utf8.acceptRanges", "clarion/fec.sizes", "clarion/table.sizes", "internal/bytealg.MaxLen"], apart := false, laid := [("unicode/utf8.acceptRanges", laid_unicode_utf8_acceptRanges), ("clarion/frame.sizes", laid_clarion_frame_sizes), ("clarion/fec.sizes", laid_clarion_fec_sizes), ("clarion/table.sizes", laid_clarion_table_sizes), ("unicode/utf8.first", laid_unicode_utf8_first)], narrowed := true }
def BurstBackUptoSaid : Prop := burstBackUptoRow.holds Tryz.pinned (OpenSpec.upto burstBackSpec)

/-- 'clarionlaw19.BurstSafe', WHERE WHAT IT READS IS OF BULK AT MOST 1048576: true; the input reads as it did. -/
def burstSafeUptoRow : OpenClaim := { program := "ythgcmlhmhojjhaagreatdoor", sum := "f919483e4964ce047f721d0cb074a60bb6418efce51d485dd7467ec2c486d2c7", func := "clarion/clarionlaw19.BurstSafe", spec := "burstSafe", inPlace := ["internal/abi.NoEscape", "internal/bytealg.MakeNoZero", "internal/bytealg.IndexByteString", "internal/bytealg.IndexString", "slices.overlaps[int]"], unfollowed := true, recurses := true, named := ["clarion/frame.sizes", "unicode/utf8.first", "unicode/utf8.acceptRanges", "clarion/fec.sizes", "clarion/table.sizes", "internal/bytealg.MaxLen"], apart := false, laid := [("unicode/utf8.acceptRanges", laid_unicode_utf8_acceptRanges), ("clarion/frame.sizes", laid_clarion_frame_sizes), ("clarion/fec.sizes", laid_clarion_fec_sizes), ("clarion/table.sizes", laid_clarion_table_sizes), ("unicode/utf8.first", laid_unicode_utf8_first)], narrowed := true }
def BurstSafeUptoSaid : Prop := burstSafeUptoRow.holds Tryz.pinned (OpenSpec.upto burstSafeSpec)

/-- 'clarionlaw19.BurstOrder', WHERE WHAT IT READS IS OF BULK AT MOST 1048576: true; the input reads as it did. -/
def burstOrderUptoRow : OpenClaim := { program := "ythgcmlhmhojjhaagreatdoor", sum := "f919483e4964ce047f721d0cb074a60bb6418efce51d485dd7467ec2c486d2c7", func := "clarion/clarionlaw19.BurstOrder", spec := "burstOrder", inPlace := ["internal/abi.NoEscape", "internal/bytealg.MakeNoZero", "internal/bytealg.IndexByteString", "internal/bytealg.IndexString", "slices.overlaps[int]"], unfollowed := true, recurses := true, named := ["clarion/frame.sizes", "unicode/utf8.first", "unicode/utf8.acceptRanges", "clarion/fec.sizes", "clarion/table.sizes", "internal/bytealg.MaxLen"], apart := false, laid := [("unicode/utf8.acceptRanges", laid_unicode_utf8_acceptRanges), ("clarion/frame.sizes", laid_clarion_frame_sizes), ("clarion/fec.sizes", laid_clarion_fec_sizes), ("clarion/table.sizes", laid_clarion_table_sizes), ("unicode/utf8.first", laid_unicode_utf8_first)], narrowed := true }
def BurstOrderUptoSaid : Prop := burstOrderUptoRow.holds Tryz.pinned (OpenSpec.upto burstOrderSpec)

end Rows
end Go.Proofs.YthgcmlhmhojjhaaGreatDoor
