/-
  No cell of these rows narrows 'for every input' (looked for: loops, veiled, ifaces, maps, wideKeys, modest, calm, conditions, laid).
  DERIVED. THE GIVEN ROWS OF THIS SEAT. 7 by the template 'for every input the law returns true; each argument reads behind the call as it read before'; 0 by the template 'total and deterministic' (their statements: YtfadhgbhdoddpaaTotals.lean).
  GIVEN WITH THE SEED: the statements are not yours to turn. If you find one false, say at which input.
  Laid BY PROGRAM, IN A SANDBOX (cutbox-rows.mjs): the forced cells as the released guide's own fill.sh prints them over the translation 34dfa1dc7ceb0349… (all of the seat's roots in one cut). By AI agents, Wed Nov 11 2026. No macro, syntax, notation, axiom, sorry.
-/
import Derived.Test.YtfadhgbhdoddpaaChecked
import GoSem.Claim
import GoSem.ClaimJoined
import GoSem.ClaimMapViews
import Derived.JoinedTies
import Derived.KernelRfl
namespace Go.Proofs.Ytfadhgbhdoddpaa
/- THE CELL 'sum', in the pinned program and in every row, IS THE sha256 OF THE DUMP (.gsa) THAT YtfadhgbhdoddpaaProg.lean LOADS. Nothing in Lean hashes anything: it is a label: what it is worth is what the hold of that sum in a sandbox is worth. -/
noncomputable def Try.pinned : Pinned := { name := "ytfadhgbhdoddpaa", sum := "34dfa1dc7ceb03491ebf3154adb7314597ee151c28f360fe1aaf340390075b4b", checked := Try.checked }
namespace Rows
def none {H : Type} : Left H := { results := [], args := [] }

/-- 'clarionlaw10.MpeApart': WHATEVER THE INPUT: true; the input reads as it did. -/
def mpeApartSpec : ChangeSpec := { name := "mpeApart", fn := fun _ => fun
  | [d1, d2] => { results := [.lit (.bool true)], args := [d1, d2] }
  | _ => none }
def mpeApartRow : OpenClaim := { program := "ytfadhgbhdoddpaa", sum := "34dfa1dc7ceb03491ebf3154adb7314597ee151c28f360fe1aaf340390075b4b", func := "clarion/clarionlaw10.MpeApart", spec := "mpeApart", inPlace := ["internal/abi.NoEscape", "internal/bytealg.MakeNoZero"], unfollowed := true, recurses := true, apart := false }
def MpeApartSaid : Prop := mpeApartRow.holds Try.pinned (OpenSpec.ofChange mpeApartSpec)

/-- ITS FALSE NEIGHBOUR: 'it returns false'. Refute it at one input. -/
def mpeApartWrong : ChangeSpec := { name := "mpeApart", fn := fun _ => fun
  | [d1, d2] => { results := [.lit (.bool false)], args := [d1, d2] }
  | _ => none }
def MpeApartWrongFalsely : Prop := mpeApartRow.holds Try.pinned (OpenSpec.ofChange mpeApartWrong)

/-- 'clarionlaw10.MpeWrites': WHATEVER THE INPUT: true; the input reads as it did. -/
def mpeWritesSpec : ChangeSpec := { name := "mpeWrites", fn := fun _ => fun
  | [d] => { results := [.lit (.bool true)], args := [d] }
  | _ => none }
def mpeWritesRow : OpenClaim := { program := "ytfadhgbhdoddpaa", sum := "34dfa1dc7ceb03491ebf3154adb7314597ee151c28f360fe1aaf340390075b4b", func := "clarion/clarionlaw10.MpeWrites", spec := "mpeWrites", inPlace := ["internal/abi.NoEscape", "internal/bytealg.MakeNoZero"], unfollowed := true, recurses := true, apart := false }
def MpeWritesSaid : Prop := mpeWritesRow.holds Try.pinned (OpenSpec.ofChange mpeWritesSpec)

/-- ITS FALSE NEIGHBOUR: 'it returns false'. Refute it at one input. -/
def mpeWritesWrong : ChangeSpec := { name := "mpeWrites", fn := fun _ => fun
  | [d] => { results := [.lit (.bool false)], args := [d] }
  | _ => none }
def MpeWritesWrongFalsely : Prop := mpeWritesRow.holds Try.pinned (OpenSpec.ofChange mpeWritesWrong)

/-- 'clarionlaw10.MpeTurned': WHATEVER THE INPUT: true; the input reads as it did. -/
def mpeTurnedSpec : ChangeSpec := { name := "mpeTurned", fn := fun _ => fun
  | [d1, d2, d3] => { results := [.lit (.bool true)], args := [d1, d2, d3] }
  | _ => none }
def mpeTurnedRow : OpenClaim := { program := "ytfadhgbhdoddpaa", sum := "34dfa1dc7ceb03491ebf3154adb7314597ee151c28f360fe1aaf340390075b4b", func := "clarion/clarionlaw10.MpeTurned", spec := "mpeTurned", inPlace := ["internal/abi.NoEscape", "internal/bytealg.MakeNoZero"], unfollowed := true, recurses := true, apart := false }
def MpeTurnedSaid : Prop := mpeTurnedRow.holds Try.pinned (OpenSpec.ofChange mpeTurnedSpec)

/-- ITS FALSE NEIGHBOUR: 'it returns false'. Refute it at one input. -/
def mpeTurnedWrong : ChangeSpec := { name := "mpeTurned", fn := fun _ => fun
  | [d1, d2, d3] => { results := [.lit (.bool false)], args := [d1, d2, d3] }
  | _ => none }
def MpeTurnedWrongFalsely : Prop := mpeTurnedRow.holds Try.pinned (OpenSpec.ofChange mpeTurnedWrong)

/-- 'clarionlaw10.MpeBack': WHATEVER THE INPUT: true; the input reads as it did. -/
def mpeBackSpec : ChangeSpec := { name := "mpeBack", fn := fun _ => fun
  | [d1, d2, d3] => { results := [.lit (.bool true)], args := [d1, d2, d3] }
  | _ => none }
def mpeBackRow : OpenClaim := { program := "ytfadhgbhdoddpaa", sum := "34dfa1dc7ceb03491ebf3154adb7314597ee151c28f360fe1aaf340390075b4b", func := "clarion/clarionlaw10.MpeBack", spec := "mpeBack", inPlace := ["internal/abi.NoEscape", "internal/bytealg.MakeNoZero"], unfollowed := true, recurses := true, apart := false }
def MpeBackSaid : Prop := mpeBackRow.holds Try.pinned (OpenSpec.ofChange mpeBackSpec)

/-- ITS FALSE NEIGHBOUR: 'it returns false'. Refute it at one input. -/
def mpeBackWrong : ChangeSpec := { name := "mpeBack", fn := fun _ => fun
  | [d1, d2, d3] => { results := [.lit (.bool false)], args := [d1, d2, d3] }
  | _ => none }
def MpeBackWrongFalsely : Prop := mpeBackRow.holds Try.pinned (OpenSpec.ofChange mpeBackWrong)

/-- 'clarionlaw10.MpeLong': WHATEVER THE INPUT: true; the input reads as it did. -/
def mpeLongSpec : ChangeSpec := { name := "mpeLong", fn := fun _ => fun
  | [d1, d2] => { results := [.lit (.bool true)], args := [d1, d2] }
  | _ => none }
def mpeLongRow : OpenClaim := { program := "ytfadhgbhdoddpaa", sum := "34dfa1dc7ceb03491ebf3154adb7314597ee151c28f360fe1aaf340390075b4b", func := "clarion/clarionlaw10.MpeLong", spec := "mpeLong", inPlace := ["internal/abi.NoEscape", "internal/bytealg.MakeNoZero"], unfollowed := true, recurses := true, apart := false }
def MpeLongSaid : Prop := mpeLongRow.holds Try.pinned (OpenSpec.ofChange mpeLongSpec)

/-- ITS FALSE NEIGHBOUR: 'it returns false'. Refute it at one input. -/
def mpeLongWrong : ChangeSpec := { name := "mpeLong", fn := fun _ => fun
  | [d1, d2] => { results := [.lit (.bool false)], args := [d1, d2] }
  | _ => none }
def MpeLongWrongFalsely : Prop := mpeLongRow.holds Try.pinned (OpenSpec.ofChange mpeLongWrong)

/-- 'clarionlaw10.MpeReads': WHATEVER THE INPUT: true; the input reads as it did. -/
def mpeReadsSpec : ChangeSpec := { name := "mpeReads", fn := fun _ => fun
  | [d1, d2] => { results := [.lit (.bool true)], args := [d1, d2] }
  | _ => none }
def mpeReadsRow : OpenClaim := { program := "ytfadhgbhdoddpaa", sum := "34dfa1dc7ceb03491ebf3154adb7314597ee151c28f360fe1aaf340390075b4b", func := "clarion/clarionlaw10.MpeReads", spec := "mpeReads", inPlace := ["internal/abi.NoEscape", "internal/bytealg.MakeNoZero"], unfollowed := true, recurses := true, apart := false }
def MpeReadsSaid : Prop := mpeReadsRow.holds Try.pinned (OpenSpec.ofChange mpeReadsSpec)

/-- ITS FALSE NEIGHBOUR: 'it returns false'. Refute it at one input. -/
def mpeReadsWrong : ChangeSpec := { name := "mpeReads", fn := fun _ => fun
  | [d1, d2] => { results := [.lit (.bool false)], args := [d1, d2] }
  | _ => none }
def MpeReadsWrongFalsely : Prop := mpeReadsRow.holds Try.pinned (OpenSpec.ofChange mpeReadsWrong)

/-- 'clarionlaw10.MpeAll': WHATEVER THE INPUT: true; the input reads as it did. -/
def mpeAllSpec : ChangeSpec := { name := "mpeAll", fn := fun _ => fun
  | [d] => { results := [.lit (.bool true)], args := [d] }
  | _ => none }
def mpeAllRow : OpenClaim := { program := "ytfadhgbhdoddpaa", sum := "34dfa1dc7ceb03491ebf3154adb7314597ee151c28f360fe1aaf340390075b4b", func := "clarion/clarionlaw10.MpeAll", spec := "mpeAll", inPlace := ["internal/abi.NoEscape", "internal/bytealg.MakeNoZero"], unfollowed := true, recurses := true, apart := false }
def MpeAllSaid : Prop := mpeAllRow.holds Try.pinned (OpenSpec.ofChange mpeAllSpec)

/-- ITS FALSE NEIGHBOUR: 'it returns false'. Refute it at one input. -/
def mpeAllWrong : ChangeSpec := { name := "mpeAll", fn := fun _ => fun
  | [d] => { results := [.lit (.bool false)], args := [d] }
  | _ => none }
def MpeAllWrongFalsely : Prop := mpeAllRow.holds Try.pinned (OpenSpec.ofChange mpeAllWrong)

/- THE SECOND FORM. 'bulk': how many values and letters a reading holds, each counted each time it is reached (what is shared counts as often as it is met; a slice's spare places count too). A statement '..UptoSaid' is the law's where the arguments, and the package variables that the reading takes, are together of bulk at most 1048576: NARROWER than '..Said'. Prove '..Said' where nothing that the law and all that it calls make is longer than what came in: it says more and counts as full. Else prove '..UptoSaid'. A law counts once. -/
mutual
def uptoBulk {H : Type} : DataW H → Nat
  | .lit (.string bytes) => bytes.length + 1
  | .lit _ => 1
  | .nil => 1
  | .ptr d => uptoBulk d + 1
  | .slice elems spare => uptoBulkAll elems + uptoBulkAll spare + 1
  | .agg parts => uptoBulkAll parts + 1
  | .iface _ d => uptoBulk d + 1
  | .map entries => uptoBulkEntries entries + 1
  | .held _ => 1
def uptoBulkAll {H : Type} : List (DataW H) → Nat
  | [] => 0
  | d :: r => uptoBulk d + uptoBulkAll r
def uptoBulkEntries {H : Type} : List (Lit × DataW H) → Nat
  | [] => 0
  | x :: r => uptoBulkEntry x + uptoBulkEntries r
def uptoBulkEntry {H : Type} : Lit × DataW H → Nat
  | (.string bytes, d) => bytes.length + uptoBulk d + 1
  | (_, d) => uptoBulk d + 1
 end
def uptoSmall : (H : Type) → List (DataW H) → Bool := fun _ ds => decide (uptoBulkAll ds ≤ 1048576)
def OpenSpec.upto (s : _root_.Go.ChangeSpec) : _root_.Go.OpenSpec := { _root_.Go.OpenSpec.ofChange s with cond := some uptoSmall }

/-- 'clarionlaw10.MpeApart', WHERE WHAT IT READS IS OF BULK AT MOST 1048576: true; the input reads as it did. -/
def mpeApartUptoRow : OpenClaim := { program := "ytfadhgbhdoddpaa", sum := "34dfa1dc7ceb03491ebf3154adb7314597ee151c28f360fe1aaf340390075b4b", func := "clarion/clarionlaw10.MpeApart", spec := "mpeApart", inPlace := ["internal/abi.NoEscape", "internal/bytealg.MakeNoZero"], unfollowed := true, recurses := true, apart := false, narrowed := true }
def MpeApartUptoSaid : Prop := mpeApartUptoRow.holds Try.pinned (OpenSpec.upto mpeApartSpec)

/-- 'clarionlaw10.MpeWrites', WHERE WHAT IT READS IS OF BULK AT MOST 1048576: true; the input reads as it did. -/
def mpeWritesUptoRow : OpenClaim := { program := "ytfadhgbhdoddpaa", sum := "34dfa1dc7ceb03491ebf3154adb7314597ee151c28f360fe1aaf340390075b4b", func := "clarion/clarionlaw10.MpeWrites", spec := "mpeWrites", inPlace := ["internal/abi.NoEscape", "internal/bytealg.MakeNoZero"], unfollowed := true, recurses := true, apart := false, narrowed := true }
def MpeWritesUptoSaid : Prop := mpeWritesUptoRow.holds Try.pinned (OpenSpec.upto mpeWritesSpec)

/-- 'clarionlaw10.MpeTurned', WHERE WHAT IT READS IS OF BULK AT MOST 1048576: true; the input reads as it did. -/
def mpeTurnedUptoRow : OpenClaim := { program := "ytfadhgbhdoddpaa", sum := "34dfa1dc7ceb03491ebf3154adb7314597ee151c28f360fe1aaf340390075b4b", func := "clarion/clarionlaw10.MpeTurned", spec := "mpeTurned", inPlace := ["internal/abi.NoEscape", "internal/bytealg.MakeNoZero"], unfollowed := true, recurses := true, apart := false, narrowed := true }
def MpeTurnedUptoSaid : Prop := mpeTurnedUptoRow.holds Try.pinned (OpenSpec.upto mpeTurnedSpec)

/-- 'clarionlaw10.MpeBack', WHERE WHAT IT READS IS OF BULK AT MOST 1048576: true; the input reads as it did. -/
def mpeBackUptoRow : OpenClaim := { program := "ytfadhgbhdoddpaa", sum := "34dfa1dc7ceb03491ebf3154adb7314597ee151c28f360fe1aaf340390075b4b", func := "clarion/clarionlaw10.MpeBack", spec := "mpeBack", inPlace := ["internal/abi.NoEscape", "internal/bytealg.MakeNoZero"], unfollowed := true, recurses := true, apart := false, narrowed := true }
def MpeBackUptoSaid : Prop := mpeBackUptoRow.holds Try.pinned (OpenSpec.upto mpeBackSpec)

/-- 'clarionlaw10.MpeLong', WHERE WHAT IT READS IS OF BULK AT MOST 1048576: true; the input reads as it did. -/
def mpeLongUptoRow : OpenClaim := { program := "ytfadhgbhdoddpaa", sum := "34dfa1dc7ceb03491ebf3154adb7314597ee151c28f360fe1aaf340390075b4b", func := "clarion/clarionlaw10.MpeLong", spec := "mpeLong", inPlace := ["internal/abi.NoEscape", "internal/bytealg.MakeNoZero"], unfollowed := true, recurses := true, apart := false, narrowed := true }
def MpeLongUptoSaid : Prop := mpeLongUptoRow.holds Try.pinned (OpenSpec.upto mpeLongSpec)

/-- 'clarionlaw10.MpeReads', WHERE WHAT IT READS IS OF BULK AT MOST 1048576: true; the input reads as it did. -/
def mpeReadsUptoRow : OpenClaim := { program := "ytfadhgbhdoddpaa", sum := "34dfa1dc7ceb03491ebf3154adb7314597ee151c28f360fe1aaf340390075b4b", func := "clarion/clarionlaw10.MpeReads", spec := "mpeReads", inPlace := ["internal/abi.NoEscape", "internal/bytealg.MakeNoZero"], unfollowed := true, recurses := true, apart := false, narrowed := true }
def MpeReadsUptoSaid : Prop := mpeReadsUptoRow.holds Try.pinned (OpenSpec.upto mpeReadsSpec)

/-- 'clarionlaw10.MpeAll', WHERE WHAT IT READS IS OF BULK AT MOST 1048576: true; the input reads as it did. -/
def mpeAllUptoRow : OpenClaim := { program := "ytfadhgbhdoddpaa", sum := "34dfa1dc7ceb03491ebf3154adb7314597ee151c28f360fe1aaf340390075b4b", func := "clarion/clarionlaw10.MpeAll", spec := "mpeAll", inPlace := ["internal/abi.NoEscape", "internal/bytealg.MakeNoZero"], unfollowed := true, recurses := true, apart := false, narrowed := true }
def MpeAllUptoSaid : Prop := mpeAllUptoRow.holds Try.pinned (OpenSpec.upto mpeAllSpec)

end Rows
end Go.Proofs.Ytfadhgbhdoddpaa
