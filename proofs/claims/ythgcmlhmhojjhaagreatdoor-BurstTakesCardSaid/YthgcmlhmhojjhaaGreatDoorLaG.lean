/- The law's own: in, sure. -/
import Derived.Test.YthgcmlhmhojjhaaGreatDoorLaA
import Derived.Test.YthgcmlhmhojjhaaGreatDoorPkW
namespace Go.Proofs.YthgcmlhmhojjhaaGreatDoor.LaG
open Go Go.RowKit Go.Proofs.YthgcmlhmhojjhaaGreatDoor.Q Go.Proofs.YthgcmlhmhojjhaaGreatDoor.Mem Go.Proofs.YthgcmlhmhojjhaaGreatDoor.Rg Go.Proofs.YthgcmlhmhojjhaaGreatDoor.Ap Go.Proofs.YthgcmlhmhojjhaaGreatDoor.St Go.Proofs.YthgcmlhmhojjhaaGreatDoor.Tab Go.Proofs.YthgcmlhmhojjhaaGreatDoor.Ints Go.Proofs.YthgcmlhmhojjhaaGreatDoor.FrA

set_option maxRecDepth 100000
/-- may a frame be sent so? -/
def small (z : Int) : Bool := decide (0 ≤ z) && decide (z ≤ 1000)
def sureB (R C K : Int) (l : List Int) (g p : Nat) : Bool := l.all small && (okC R C K && decide (R = 256) && decide (l.length ≤ 20) && decide (g ≤ 30) && decide (p ≤ 64))
end Go.Proofs.YthgcmlhmhojjhaaGreatDoor.LaG
