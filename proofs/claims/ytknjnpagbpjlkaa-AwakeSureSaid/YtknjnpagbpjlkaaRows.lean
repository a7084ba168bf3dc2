/-
  No cell of these rows narrows 'for every input' (looked for: loops, veiled, ifaces, maps, wideKeys, modest, calm, conditions, laid).
  DERIVED. THE GIVEN ROWS OF THIS SEAT. 6 by the template 'for every input the law returns true; each argument reads behind the call as it read before'; 0 by the template 'total and deterministic' (their statements: YtknjnpagbpjlkaaTotals.lean).
  GIVEN WITH THE SEED: the statements are not yours to turn. If you find one false, say at which input.
  Laid BY PROGRAM, IN A SANDBOX (cutbox-rows.mjs): the forced cells as the released guide's own fill.sh prints them over the translation 1da1dfebe2c6ffa2… (all of the seat's roots in one cut). By AI agents, Wed Nov 11 2026. No macro, syntax, notation, axiom, sorry.
-/
import Derived.Test.YtknjnpagbpjlkaaChecked
import GoSem.Claim
import GoSem.ClaimJoined
import GoSem.ClaimMapViews
import Derived.JoinedTies
import Derived.KernelRfl
namespace Go.Proofs.Ytknjnpagbpjlkaa
/- THE CELL 'sum', in the pinned program and in every row, IS THE sha256 OF THE DUMP (.gsa) THAT YtknjnpagbpjlkaaProg.lean LOADS. Nothing in Lean hashes anything: it is a label: what it is worth is what the hold of that sum in a sandbox is worth. -/
noncomputable def Try.pinned : Pinned := { name := "ytknjnpagbpjlkaa", sum := "1da1dfebe2c6ffa2b1c5ac357560d21bcf8a9ada618c71192dac92c583e42ea1", checked := Try.checked }
namespace Rows
def none {H : Type} : Left H := { results := [], args := [] }

/-- 'clarionlaw21.AwakePlays': WHATEVER THE INPUT: true; the input reads as it did. -/
def awakePlaysSpec : ChangeSpec := { name := "awakePlays", fn := fun _ => fun
  | [d1, d2] => { results := [.lit (.bool true)], args := [d1, d2] }
  | _ => none }
def awakePlaysRow : OpenClaim := { program := "ytknjnpagbpjlkaa", sum := "1da1dfebe2c6ffa2b1c5ac357560d21bcf8a9ada618c71192dac92c583e42ea1", func := "clarion/clarionlaw21.AwakePlays", spec := "awakePlays", apart := false }
def AwakePlaysSaid : Prop := awakePlaysRow.holds Try.pinned (OpenSpec.ofChange awakePlaysSpec)

/-- ITS FALSE NEIGHBOUR: 'it returns false'. Refute it at one input. -/
def awakePlaysWrong : ChangeSpec := { name := "awakePlays", fn := fun _ => fun
  | [d1, d2] => { results := [.lit (.bool false)], args := [d1, d2] }
  | _ => none }
def AwakePlaysWrongFalsely : Prop := awakePlaysRow.holds Try.pinned (OpenSpec.ofChange awakePlaysWrong)

/-- 'clarionlaw21.AwakeSure': WHATEVER THE INPUT: true; the input reads as it did. -/
def awakeSureSpec : ChangeSpec := { name := "awakeSure", fn := fun _ => fun
  | [d1, d2] => { results := [.lit (.bool true)], args := [d1, d2] }
  | _ => none }
def awakeSureRow : OpenClaim := { program := "ytknjnpagbpjlkaa", sum := "1da1dfebe2c6ffa2b1c5ac357560d21bcf8a9ada618c71192dac92c583e42ea1", func := "clarion/clarionlaw21.AwakeSure", spec := "awakeSure", apart := false }
def AwakeSureSaid : Prop := awakeSureRow.holds Try.pinned (OpenSpec.ofChange awakeSureSpec)

/-- ITS FALSE NEIGHBOUR: 'it returns false'. Refute it at one input. -/
def awakeSureWrong : ChangeSpec := { name := "awakeSure", fn := fun _ => fun
  | [d1, d2] => { results := [.lit (.bool false)], args := [d1, d2] }
  | _ => none }
def AwakeSureWrongFalsely : Prop := awakeSureRow.holds Try.pinned (OpenSpec.ofChange awakeSureWrong)

/-- 'clarionlaw21.AwakeFew': WHATEVER THE INPUT: true; the input reads as it did. -/
def awakeFewSpec : ChangeSpec := { name := "awakeFew", fn := fun _ => fun
  | [d1, d2] => { results := [.lit (.bool true)], args := [d1, d2] }
  | _ => none }
def awakeFewRow : OpenClaim := { program := "ytknjnpagbpjlkaa", sum := "1da1dfebe2c6ffa2b1c5ac357560d21bcf8a9ada618c71192dac92c583e42ea1", func := "clarion/clarionlaw21.AwakeFew", spec := "awakeFew", apart := false }
def AwakeFewSaid : Prop := awakeFewRow.holds Try.pinned (OpenSpec.ofChange awakeFewSpec)

/-- ITS FALSE NEIGHBOUR: 'it returns false'. Refute it at one input. -/
def awakeFewWrong : ChangeSpec := { name := "awakeFew", fn := fun _ => fun
  | [d1, d2] => { results := [.lit (.bool false)], args := [d1, d2] }
  | _ => none }
def AwakeFewWrongFalsely : Prop := awakeFewRow.holds Try.pinned (OpenSpec.ofChange awakeFewWrong)

/-- 'clarionlaw21.AwakeMissed': WHATEVER THE INPUT: true; the input reads as it did. -/
def awakeMissedSpec : ChangeSpec := { name := "awakeMissed", fn := fun _ => fun
  | [d1, d2, d3] => { results := [.lit (.bool true)], args := [d1, d2, d3] }
  | _ => none }
def awakeMissedRow : OpenClaim := { program := "ytknjnpagbpjlkaa", sum := "1da1dfebe2c6ffa2b1c5ac357560d21bcf8a9ada618c71192dac92c583e42ea1", func := "clarion/clarionlaw21.AwakeMissed", spec := "awakeMissed", apart := false }
def AwakeMissedSaid : Prop := awakeMissedRow.holds Try.pinned (OpenSpec.ofChange awakeMissedSpec)

/-- ITS FALSE NEIGHBOUR: 'it returns false'. Refute it at one input. -/
def awakeMissedWrong : ChangeSpec := { name := "awakeMissed", fn := fun _ => fun
  | [d1, d2, d3] => { results := [.lit (.bool false)], args := [d1, d2, d3] }
  | _ => none }
def AwakeMissedWrongFalsely : Prop := awakeMissedRow.holds Try.pinned (OpenSpec.ofChange awakeMissedWrong)

/-- 'clarionlaw21.AwakeNil': WHATEVER THE INPUT: true; the input reads as it did. -/
def awakeNilSpec : ChangeSpec := { name := "awakeNil", fn := fun _ => fun
  | [d1, d2] => { results := [.lit (.bool true)], args := [d1, d2] }
  | _ => none }
def awakeNilRow : OpenClaim := { program := "ytknjnpagbpjlkaa", sum := "1da1dfebe2c6ffa2b1c5ac357560d21bcf8a9ada618c71192dac92c583e42ea1", func := "clarion/clarionlaw21.AwakeNil", spec := "awakeNil", apart := false }
def AwakeNilSaid : Prop := awakeNilRow.holds Try.pinned (OpenSpec.ofChange awakeNilSpec)

/-- ITS FALSE NEIGHBOUR: 'it returns false'. Refute it at one input. -/
def awakeNilWrong : ChangeSpec := { name := "awakeNil", fn := fun _ => fun
  | [d1, d2] => { results := [.lit (.bool false)], args := [d1, d2] }
  | _ => none }
def AwakeNilWrongFalsely : Prop := awakeNilRow.holds Try.pinned (OpenSpec.ofChange awakeNilWrong)

/-- 'clarionlaw21.AwakeLong': WHATEVER THE INPUT: true; the input reads as it did. -/
def awakeLongSpec : ChangeSpec := { name := "awakeLong", fn := fun _ => fun
  | [d1, d2, d3] => { results := [.lit (.bool true)], args := [d1, d2, d3] }
  | _ => none }
def awakeLongRow : OpenClaim := { program := "ytknjnpagbpjlkaa", sum := "1da1dfebe2c6ffa2b1c5ac357560d21bcf8a9ada618c71192dac92c583e42ea1", func := "clarion/clarionlaw21.AwakeLong", spec := "awakeLong", apart := false }
def AwakeLongSaid : Prop := awakeLongRow.holds Try.pinned (OpenSpec.ofChange awakeLongSpec)

/-- ITS FALSE NEIGHBOUR: 'it returns false'. Refute it at one input. -/
def awakeLongWrong : ChangeSpec := { name := "awakeLong", fn := fun _ => fun
  | [d1, d2, d3] => { results := [.lit (.bool false)], args := [d1, d2, d3] }
  | _ => none }
def AwakeLongWrongFalsely : Prop := awakeLongRow.holds Try.pinned (OpenSpec.ofChange awakeLongWrong)

/- THE SECOND FORM. 'bulk': how many values and letters a reading holds, each counted each time it is reached (what is shared counts as often as it is met; a slice's spare places count too). A statement '..UptoSaid' is the law's where the arguments, and the package variables that the reading takes, are together of bulk at most 1048576: NARROWER than '..Said'. Prove '..Said' where nothing that the law and all that it calls make is longer than what came in: it says more and counts as full. Else prove '..UptoSaid'. A law counts once. -/
mutual
def uptoBulk {H : Type} : DataW H → Nat
  | .lit (.string bytes) => bytes.length + 1
  | .lit _ => 1
  | .nil => 1
  | .ptr d => uptoBulk d + 1
  | .slice elems spare => uptoBulkAll elems + uptoBulkAll spare + 1
  | .agg parts => uptoBulkAll parts + 1
  | .iface _ d => uptoBulk d + 1
  | .map entries => uptoBulkEntries entries + 1
  | .held _ => 1
def uptoBulkAll {H : Type} : List (DataW H) → Nat
  | [] => 0
  | d :: r => uptoBulk d + uptoBulkAll r
def uptoBulkEntries {H : Type} : List (Lit × DataW H) → Nat
  | [] => 0
  | x :: r => uptoBulkEntry x + uptoBulkEntries r
def uptoBulkEntry {H : Type} : Lit × DataW H → Nat
  | (.string bytes, d) => bytes.length + uptoBulk d + 1
  | (_, d) => uptoBulk d + 1
 end
def uptoSmall : (H : Type) → List (DataW H) → Bool := fun _ ds => decide (uptoBulkAll ds ≤ 1048576)
def OpenSpec.upto (s : _root_.Go.ChangeSpec) : _root_.Go.OpenSpec := { _root_.Go.OpenSpec.ofChange s with cond := some uptoSmall }

/-- 'clarionlaw21.AwakePlays', WHERE WHAT IT READS IS OF BULK AT MOST 1048576: true; the input reads as it did. -/
def awakePlaysUptoRow : OpenClaim := { program := "ytknjnpagbpjlkaa", sum := "1da1dfebe2c6ffa2b1c5ac357560d21bcf8a9ada618c71192dac92c583e42ea1", func := "clarion/clarionlaw21.AwakePlays", spec := "awakePlays", apart := false, narrowed := true }
def AwakePlaysUptoSaid : Prop := awakePlaysUptoRow.holds Try.pinned (OpenSpec.upto awakePlaysSpec)

/-- 'clarionlaw21.AwakeSure', WHERE WHAT IT READS IS OF BULK AT MOST 1048576: true; the input reads as it did. -/
def awakeSureUptoRow : OpenClaim := { program := "ytknjnpagbpjlkaa", sum := "1da1dfebe2c6ffa2b1c5ac357560d21bcf8a9ada618c71192dac92c583e42ea1", func := "clarion/clarionlaw21.AwakeSure", spec := "awakeSure", apart := false, narrowed := true }
def AwakeSureUptoSaid : Prop := awakeSureUptoRow.holds Try.pinned (OpenSpec.upto awakeSureSpec)

/-- 'clarionlaw21.AwakeFew', WHERE WHAT IT READS IS OF BULK AT MOST 1048576: true; the input reads as it did. -/
def awakeFewUptoRow : OpenClaim := { program := "ytknjnpagbpjlkaa", sum := "1da1dfebe2c6ffa2b1c5ac357560d21bcf8a9ada618c71192dac92c583e42ea1", func := "clarion/clarionlaw21.AwakeFew", spec := "awakeFew", apart := false, narrowed := true }
def AwakeFewUptoSaid : Prop := awakeFewUptoRow.holds Try.pinned (OpenSpec.upto awakeFewSpec)

/-- 'clarionlaw21.AwakeMissed', WHERE WHAT IT READS IS OF BULK AT MOST 1048576: true; the input reads as it did. -/
def awakeMissedUptoRow : OpenClaim := { program := "ytknjnpagbpjlkaa", sum := "1da1dfebe2c6ffa2b1c5ac357560d21bcf8a9ada618c71192dac92c583e42ea1", func := "clarion/clarionlaw21.AwakeMissed", spec := "awakeMissed", apart := false, narrowed := true }
def AwakeMissedUptoSaid : Prop := awakeMissedUptoRow.holds Try.pinned (OpenSpec.upto awakeMissedSpec)

/-- 'clarionlaw21.AwakeNil', WHERE WHAT IT READS IS OF BULK AT MOST 1048576: true; the input reads as it did. -/
def awakeNilUptoRow : OpenClaim := { program := "ytknjnpagbpjlkaa", sum := "1da1dfebe2c6ffa2b1c5ac357560d21bcf8a9ada618c71192dac92c583e42ea1", func := "clarion/clarionlaw21.AwakeNil", spec := "awakeNil", apart := false, narrowed := true }
def AwakeNilUptoSaid : Prop := awakeNilUptoRow.holds Try.pinned (OpenSpec.upto awakeNilSpec)

/-- 'clarionlaw21.AwakeLong', WHERE WHAT IT READS IS OF BULK AT MOST 1048576: true; the input reads as it did. -/
def awakeLongUptoRow : OpenClaim := { program := "ytknjnpagbpjlkaa", sum := "1da1dfebe2c6ffa2b1c5ac357560d21bcf8a9ada618c71192dac92c583e42ea1", func := "clarion/clarionlaw21.AwakeLong", spec := "awakeLong", apart := false, narrowed := true }
def AwakeLongUptoSaid : Prop := awakeLongUptoRow.holds Try.pinned (OpenSpec.upto awakeLongSpec)

end Rows
end Go.Proofs.Ytknjnpagbpjlkaa
