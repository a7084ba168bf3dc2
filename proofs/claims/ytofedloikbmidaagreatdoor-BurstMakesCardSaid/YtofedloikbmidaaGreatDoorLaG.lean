/- The law's own: in, sure. -/
import Derived.Test.YtofedloikbmidaaGreatDoorLaA
import Derived.Test.YtofedloikbmidaaGreatDoorPkW
namespace Go.Proofs.YtofedloikbmidaaGreatDoor.LaG
open Go Go.RowKit Go.Proofs.YtofedloikbmidaaGreatDoor.Q Go.Proofs.YtofedloikbmidaaGreatDoor.Mem Go.Proofs.YtofedloikbmidaaGreatDoor.Rg Go.Proofs.YtofedloikbmidaaGreatDoor.Ap Go.Proofs.YtofedloikbmidaaGreatDoor.St Go.Proofs.YtofedloikbmidaaGreatDoor.Tab Go.Proofs.YtofedloikbmidaaGreatDoor.Ints Go.Proofs.YtofedloikbmidaaGreatDoor.FrA

set_option maxRecDepth 100000
/-- may a frame be sent so? -/
def small (z : Int) : Bool := decide (0 ≤ z) && decide (z ≤ 1000)
def sureB (R C K : Int) (l : List Int) (g p : Nat) : Bool := l.all small && (okC R C K && decide (R = 256) && decide (l.length ≤ 20) && decide (g ≤ 30) && decide (p ≤ 64))
end Go.Proofs.YtofedloikbmidaaGreatDoor.LaG
