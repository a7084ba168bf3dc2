/-
  No cell of these rows narrows 'for every input' (looked for: loops, veiled, ifaces, maps, wideKeys, modest, calm, conditions, laid).
  DERIVED. THE GIVEN ROWS OF THIS SEAT. 6 by the template 'for every input the law returns true; each argument reads behind the call as it read before'; 0 by the template 'total and deterministic' (their statements: YtpigkccfepmmgaaTotals.lean).
  GIVEN WITH THE SEED: the statements are not yours to turn. If you find one false, say at which input.
  Laid BY PROGRAM, IN A SANDBOX (cutbox-rows.mjs): the forced cells as the released guide's own fill.sh prints them over the translation 4149d500ca22519a… (all of the seat's roots in one cut). By AI agents, Wed Nov 11 2026. No macro, syntax, notation, axiom, sorry.
-/
import Derived.Test.YtpigkccfepmmgaaChecked
import GoSem.Claim
import GoSem.ClaimJoined
import GoSem.ClaimMapViews
import Derived.JoinedTies
import Derived.KernelRfl
namespace Go.Proofs.Ytpigkccfepmmgaa
/- THE CELL 'sum', in the pinned program and in every row, IS THE sha256 OF THE DUMP (.gsa) THAT YtpigkccfepmmgaaProg.lean LOADS. Nothing in Lean hashes anything: it is a label: what it is worth is what the hold of that sum in a sandbox is worth. -/
noncomputable def Try.pinned : Pinned := { name := "ytpigkccfepmmgaa", sum := "4149d500ca22519a7cd9ed4bd2b96e7e49f7d59ed5aeefdf0266ee139dc8374e", checked := Try.checked }
namespace Rows
def none {H : Type} : Left H := { results := [], args := [] }

/-- 'clarionlaw08.SectionWrites': WHATEVER THE INPUT: true; the input reads as it did. -/
def sectionWritesSpec : ChangeSpec := { name := "sectionWrites", fn := fun _ => fun
  | [d] => { results := [.lit (.bool true)], args := [d] }
  | _ => none }
def sectionWritesRow : OpenClaim := { program := "ytpigkccfepmmgaa", sum := "4149d500ca22519a7cd9ed4bd2b96e7e49f7d59ed5aeefdf0266ee139dc8374e", func := "clarion/clarionlaw08.SectionWrites", spec := "sectionWrites", unfollowed := true, recurses := true, apart := false }
def SectionWritesSaid : Prop := sectionWritesRow.holds Try.pinned (OpenSpec.ofChange sectionWritesSpec)

/-- ITS FALSE NEIGHBOUR: 'it returns false'. Refute it at one input. -/
def sectionWritesWrong : ChangeSpec := { name := "sectionWrites", fn := fun _ => fun
  | [d] => { results := [.lit (.bool false)], args := [d] }
  | _ => none }
def SectionWritesWrongFalsely : Prop := sectionWritesRow.holds Try.pinned (OpenSpec.ofChange sectionWritesWrong)

/-- 'clarionlaw08.SectionSplits': WHATEVER THE INPUT: true; the input reads as it did. -/
def sectionSplitsSpec : ChangeSpec := { name := "sectionSplits", fn := fun _ => fun
  | [d1, d2, d3] => { results := [.lit (.bool true)], args := [d1, d2, d3] }
  | _ => none }
def sectionSplitsRow : OpenClaim := { program := "ytpigkccfepmmgaa", sum := "4149d500ca22519a7cd9ed4bd2b96e7e49f7d59ed5aeefdf0266ee139dc8374e", func := "clarion/clarionlaw08.SectionSplits", spec := "sectionSplits", inPlace := ["internal/abi.NoEscape"], unfollowed := true, recurses := true, apart := false }
def SectionSplitsSaid : Prop := sectionSplitsRow.holds Try.pinned (OpenSpec.ofChange sectionSplitsSpec)

/-- ITS FALSE NEIGHBOUR: 'it returns false'. Refute it at one input. -/
def sectionSplitsWrong : ChangeSpec := { name := "sectionSplits", fn := fun _ => fun
  | [d1, d2, d3] => { results := [.lit (.bool false)], args := [d1, d2, d3] }
  | _ => none }
def SectionSplitsWrongFalsely : Prop := sectionSplitsRow.holds Try.pinned (OpenSpec.ofChange sectionSplitsWrong)

/-- 'clarionlaw08.SectionOrder': WHATEVER THE INPUT: true; the input reads as it did. -/
def sectionOrderSpec : ChangeSpec := { name := "sectionOrder", fn := fun _ => fun
  | [d1, d2] => { results := [.lit (.bool true)], args := [d1, d2] }
  | _ => none }
def sectionOrderRow : OpenClaim := { program := "ytpigkccfepmmgaa", sum := "4149d500ca22519a7cd9ed4bd2b96e7e49f7d59ed5aeefdf0266ee139dc8374e", func := "clarion/clarionlaw08.SectionOrder", spec := "sectionOrder", inPlace := ["internal/abi.NoEscape"], unfollowed := true, recurses := true, apart := false }
def SectionOrderSaid : Prop := sectionOrderRow.holds Try.pinned (OpenSpec.ofChange sectionOrderSpec)

/-- ITS FALSE NEIGHBOUR: 'it returns false'. Refute it at one input. -/
def sectionOrderWrong : ChangeSpec := { name := "sectionOrder", fn := fun _ => fun
  | [d1, d2] => { results := [.lit (.bool false)], args := [d1, d2] }
  | _ => none }
def SectionOrderWrongFalsely : Prop := sectionOrderRow.holds Try.pinned (OpenSpec.ofChange sectionOrderWrong)

/-- 'clarionlaw08.SectionReads': WHATEVER THE INPUT: true; the input reads as it did. -/
def sectionReadsSpec : ChangeSpec := { name := "sectionReads", fn := fun _ => fun
  | [d] => { results := [.lit (.bool true)], args := [d] }
  | _ => none }
def sectionReadsRow : OpenClaim := { program := "ytpigkccfepmmgaa", sum := "4149d500ca22519a7cd9ed4bd2b96e7e49f7d59ed5aeefdf0266ee139dc8374e", func := "clarion/clarionlaw08.SectionReads", spec := "sectionReads", unfollowed := true, recurses := true, apart := false }
def SectionReadsSaid : Prop := sectionReadsRow.holds Try.pinned (OpenSpec.ofChange sectionReadsSpec)

/-- ITS FALSE NEIGHBOUR: 'it returns false'. Refute it at one input. -/
def sectionReadsWrong : ChangeSpec := { name := "sectionReads", fn := fun _ => fun
  | [d] => { results := [.lit (.bool false)], args := [d] }
  | _ => none }
def SectionReadsWrongFalsely : Prop := sectionReadsRow.holds Try.pinned (OpenSpec.ofChange sectionReadsWrong)

/-- 'clarionlaw08.SectionOne': WHATEVER THE INPUT: true; the input reads as it did. -/
def sectionOneSpec : ChangeSpec := { name := "sectionOne", fn := fun _ => fun
  | [d] => { results := [.lit (.bool true)], args := [d] }
  | _ => none }
def sectionOneRow : OpenClaim := { program := "ytpigkccfepmmgaa", sum := "4149d500ca22519a7cd9ed4bd2b96e7e49f7d59ed5aeefdf0266ee139dc8374e", func := "clarion/clarionlaw08.SectionOne", spec := "sectionOne", unfollowed := true, recurses := true, apart := false }
def SectionOneSaid : Prop := sectionOneRow.holds Try.pinned (OpenSpec.ofChange sectionOneSpec)

/-- ITS FALSE NEIGHBOUR: 'it returns false'. Refute it at one input. -/
def sectionOneWrong : ChangeSpec := { name := "sectionOne", fn := fun _ => fun
  | [d] => { results := [.lit (.bool false)], args := [d] }
  | _ => none }
def SectionOneWrongFalsely : Prop := sectionOneRow.holds Try.pinned (OpenSpec.ofChange sectionOneWrong)

/-- 'clarionlaw08.SectionBack': WHATEVER THE INPUT: true; the input reads as it did. -/
def sectionBackSpec : ChangeSpec := { name := "sectionBack", fn := fun _ => fun
  | [d1, d2, d3] => { results := [.lit (.bool true)], args := [d1, d2, d3] }
  | _ => none }
def sectionBackRow : OpenClaim := { program := "ytpigkccfepmmgaa", sum := "4149d500ca22519a7cd9ed4bd2b96e7e49f7d59ed5aeefdf0266ee139dc8374e", func := "clarion/clarionlaw08.SectionBack", spec := "sectionBack", inPlace := ["internal/abi.NoEscape"], unfollowed := true, recurses := true, apart := false }
def SectionBackSaid : Prop := sectionBackRow.holds Try.pinned (OpenSpec.ofChange sectionBackSpec)

/-- ITS FALSE NEIGHBOUR: 'it returns false'. Refute it at one input. -/
def sectionBackWrong : ChangeSpec := { name := "sectionBack", fn := fun _ => fun
  | [d1, d2, d3] => { results := [.lit (.bool false)], args := [d1, d2, d3] }
  | _ => none }
def SectionBackWrongFalsely : Prop := sectionBackRow.holds Try.pinned (OpenSpec.ofChange sectionBackWrong)

/- THE SECOND FORM. 'bulk': how many values and letters a reading holds, each counted each time it is reached (what is shared counts as often as it is met; a slice's spare places count too). A statement '..UptoSaid' is the law's where the arguments, and the package variables that the reading takes, are together of bulk at most 1048576: NARROWER than '..Said'. Prove '..Said' where nothing that the law and all that it calls make is longer than what came in: it says more and counts as full. Else prove '..UptoSaid'. A law counts once. -/
mutual
def uptoBulk {H : Type} : DataW H → Nat
  | .lit (.string bytes) => bytes.length + 1
  | .lit _ => 1
  | .nil => 1
  | .ptr d => uptoBulk d + 1
  | .slice elems spare => uptoBulkAll elems + uptoBulkAll spare + 1
  | .agg parts => uptoBulkAll parts + 1
  | .iface _ d => uptoBulk d + 1
  | .map entries => uptoBulkEntries entries + 1
  | .held _ => 1
def uptoBulkAll {H : Type} : List (DataW H) → Nat
  | [] => 0
  | d :: r => uptoBulk d + uptoBulkAll r
def uptoBulkEntries {H : Type} : List (Lit × DataW H) → Nat
  | [] => 0
  | x :: r => uptoBulkEntry x + uptoBulkEntries r
def uptoBulkEntry {H : Type} : Lit × DataW H → Nat
  | (.string bytes, d) => bytes.length + uptoBulk d + 1
  | (_, d) => uptoBulk d + 1
 end
def uptoSmall : (H : Type) → List (DataW H) → Bool := fun _ ds => decide (uptoBulkAll ds ≤ 1048576)
def OpenSpec.upto (s : _root_.Go.ChangeSpec) : _root_.Go.OpenSpec := { _root_.Go.OpenSpec.ofChange s with cond := some uptoSmall }

/-- 'clarionlaw08.SectionWrites', WHERE WHAT IT READS IS OF BULK AT MOST 1048576: true; the input reads as it did. -/
def sectionWritesUptoRow : OpenClaim := { program := "ytpigkccfepmmgaa", sum := "4149d500ca22519a7cd9ed4bd2b96e7e49f7d59ed5aeefdf0266ee139dc8374e", func := "clarion/clarionlaw08.SectionWrites", spec := "sectionWrites", unfollowed := true, recurses := true, apart := false, narrowed := true }
def SectionWritesUptoSaid : Prop := sectionWritesUptoRow.holds Try.pinned (OpenSpec.upto sectionWritesSpec)

/-- 'clarionlaw08.SectionSplits', WHERE WHAT IT READS IS OF BULK AT MOST 1048576: true; the input reads as it did. -/
def sectionSplitsUptoRow : OpenClaim := { program := "ytpigkccfepmmgaa", sum := "4149d500ca22519a7cd9ed4bd2b96e7e49f7d59ed5aeefdf0266ee139dc8374e", func := "clarion/clarionlaw08.SectionSplits", spec := "sectionSplits", inPlace := ["internal/abi.NoEscape"], unfollowed := true, recurses := true, apart := false, narrowed := true }
def SectionSplitsUptoSaid : Prop := sectionSplitsUptoRow.holds Try.pinned (OpenSpec.upto sectionSplitsSpec)

/-- 'clarionlaw08.SectionOrder', WHERE WHAT IT READS IS OF BULK AT MOST 1048576: true; the input reads as it did. -/
def sectionOrderUptoRow : OpenClaim := { program := "ytpigkccfepmmgaa", sum := "4149d500ca22519a7cd9ed4bd2b96e7e49f7d59ed5aeefdf0266ee139dc8374e", func := "clarion/clarionlaw08.SectionOrder", spec := "sectionOrder", inPlace := ["internal/abi.NoEscape"], unfollowed := true, recurses := true, apart := false, narrowed := true }
def SectionOrderUptoSaid : Prop := sectionOrderUptoRow.holds Try.pinned (OpenSpec.upto sectionOrderSpec)

/-- 'clarionlaw08.SectionReads', WHERE WHAT IT READS IS OF BULK AT MOST 1048576: true; the input reads as it did. -/
def sectionReadsUptoRow : OpenClaim := { program := "ytpigkccfepmmgaa", sum := "4149d500ca22519a7cd9ed4bd2b96e7e49f7d59ed5aeefdf0266ee139dc8374e", func := "clarion/clarionlaw08.SectionReads", spec := "sectionReads", unfollowed := true, recurses := true, apart := false, narrowed := true }
def SectionReadsUptoSaid : Prop := sectionReadsUptoRow.holds Try.pinned (OpenSpec.upto sectionReadsSpec)

/-- 'clarionlaw08.SectionOne', WHERE WHAT IT READS IS OF BULK AT MOST 1048576: true; the input reads as it did. -/
def sectionOneUptoRow : OpenClaim := { program := "ytpigkccfepmmgaa", sum := "4149d500ca22519a7cd9ed4bd2b96e7e49f7d59ed5aeefdf0266ee139dc8374e", func := "clarion/clarionlaw08.SectionOne", spec := "sectionOne", unfollowed := true, recurses := true, apart := false, narrowed := true }
def SectionOneUptoSaid : Prop := sectionOneUptoRow.holds Try.pinned (OpenSpec.upto sectionOneSpec)

/-- 'clarionlaw08.SectionBack', WHERE WHAT IT READS IS OF BULK AT MOST 1048576: true; the input reads as it did. -/
def sectionBackUptoRow : OpenClaim := { program := "ytpigkccfepmmgaa", sum := "4149d500ca22519a7cd9ed4bd2b96e7e49f7d59ed5aeefdf0266ee139dc8374e", func := "clarion/clarionlaw08.SectionBack", spec := "sectionBack", inPlace := ["internal/abi.NoEscape"], unfollowed := true, recurses := true, apart := false, narrowed := true }
def SectionBackUptoSaid : Prop := sectionBackUptoRow.holds Try.pinned (OpenSpec.upto sectionBackSpec)

end Rows
end Go.Proofs.Ytpigkccfepmmgaa
