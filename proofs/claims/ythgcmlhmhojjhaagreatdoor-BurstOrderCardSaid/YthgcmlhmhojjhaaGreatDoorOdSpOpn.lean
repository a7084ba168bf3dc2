/- The arrays of layer 8, opened. -/
import Derived.Test.YthgcmlhmhojjhaaGreatDoorOdSeOpn
import Derived.OpenShut
namespace Go.Proofs.YthgcmlhmhojjhaaGreatDoor.SpOpn
open Go.RowKit Go.Proofs.YthgcmlhmhojjhaaGreatDoor.Q Go.Proofs.YthgcmlhmhojjhaaGreatDoor.Mem Go.Proofs.YthgcmlhmhojjhaaGreatDoor.SeA Go.Proofs.YthgcmlhmhojjhaaGreatDoor.Ap Go.Proofs.YthgcmlhmhojjhaaGreatDoor.Opn Go.Proofs.YthgcmlhmhojjhaaGreatDoor.SeOpn
open Go.ChangeShapes Go.WideShapes Go.ChangeAt Go.Joins
set_option maxRecDepth 100000
section
variable {H0 : Type} {enc : TypeId × Value → H0} {w : World} {base : Nat} {spare : Nat → Bool} {held : Bool}
end
end Go.Proofs.YthgcmlhmhojjhaaGreatDoor.SpOpn
