/- The arguments of layer 8, opened. -/
import Derived.Test.YthgcmlhmhojjhaaGreatDoorSbPkS
import Derived.Test.YthgcmlhmhojjhaaGreatDoorSbPkA
import Derived.Test.YthgcmlhmhojjhaaGreatDoorSbPkT
import Derived.Lib.SmallJoins
import Derived.ChangeSlices
namespace Go.Proofs.YthgcmlhmhojjhaaGreatDoor.SeOpn
open Go.RowKit Go.Proofs.YthgcmlhmhojjhaaGreatDoor.Q Go.Proofs.YthgcmlhmhojjhaaGreatDoor.Mem Go.Proofs.YthgcmlhmhojjhaaGreatDoor.SeA Go.Proofs.YthgcmlhmhojjhaaGreatDoor.Ap Go.Proofs.YthgcmlhmhojjhaaGreatDoor.Opn
open Go.ChangeShapes Go.WideShapes Go.ChangeAt Go.Joins

theorem okWide_struct {P : Program} {w : World} {r : Reach} {base : Nat} {t : TypeId} {fs : Array Field} {v : Value} (ht : P.underlying t = some (.struct fs)) (h : Value.okWide P w r base t v) : ∃ cs, v = .agg cs ∧ cs.size = P.cellsOf t := by
  simp only [Value.okWide, ht] at h
  obtain ⟨cs, h1, h2, _⟩ := h
  exact ⟨cs, h1, h2⟩
set_option maxRecDepth 100000
section
variable {H0 : Type} {enc : TypeId × Value → H0} {w : World} {base : Nat} {spare : Nat → Bool} {held : Bool}
end
end Go.Proofs.YthgcmlhmhojjhaaGreatDoor.SeOpn
