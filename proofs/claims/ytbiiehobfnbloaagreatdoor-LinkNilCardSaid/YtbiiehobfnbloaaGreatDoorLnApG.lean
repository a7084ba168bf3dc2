import Derived.Test.YtbiiehobfnbloaaGreatDoorLnPkA
namespace Go.Proofs.YtbiiehobfnbloaaGreatDoor.ApG
open Go Go.RowKit Mem Q Rg Ap
section
variable {P : Program} {ops : Array Oper} {rest : List Oper} {o : Oper} {a : Act} {w : World} {Q : Exit → Act → World → Prop}
end
section
variable {e T : TypeId} {sz n B : Nat} {xs : List Value} {f : Value → Array Value}
end
section
variable {P : Program} {W : World} {sp : List (Nat × Sp)} {σ : Nat → Value} {o : Oper} {a : Act}
end
end Go.Proofs.YtbiiehobfnbloaaGreatDoor.ApG
