/- The arrays of layer 8, opened. -/
import Derived.Test.YthgcmlhmhojjhaaGreatDoorSbSeOpn
import Derived.OpenShut
namespace Go.Proofs.YthgcmlhmhojjhaaGreatDoor.SpOpn
open Go.RowKit Go.Proofs.YthgcmlhmhojjhaaGreatDoor.Q Go.Proofs.YthgcmlhmhojjhaaGreatDoor.Mem Go.Proofs.YthgcmlhmhojjhaaGreatDoor.SeA Go.Proofs.YthgcmlhmhojjhaaGreatDoor.Ap Go.Proofs.YthgcmlhmhojjhaaGreatDoor.Opn Go.Proofs.YthgcmlhmhojjhaaGreatDoor.SeOpn
open Go.ChangeShapes Go.WideShapes Go.ChangeAt Go.Joins
set_option maxRecDepth 100000
section
variable {H0 : Type} {enc : TypeId × Value → H0} {w : World} {base : Nat} {spare : Nat → Bool} {held : Bool}
theorem two_of {n : Nat} {cs : List Value} {x : DataW H0 × List MemPlace} (h : DataW.trod enc Tryz.prog w base spare held n 22 cs = some x) (hl : cs.length = 2) : ∃ a b : Int, cs = [.int .i64 a, .int .i64 b] := by
  obtain ⟨xs, m, _, _, _, hlx, hel⟩ := DataW.trod_array Tryz.underlying22 h
  match cs, hl, xs, hlx with
  | [c0, c1], _, [y0, y1], _ =>
    have h0 := hel 0 (by omega)
    have h1 := hel 1 (by omega)
    rw [show Tryz.prog.cellsOf _ = 1 by kernel_rfl] at h0 h1
    obtain ⟨a0, e0, _, _⟩ := DataW.trod_int Tryz.underlying3 h0
    obtain ⟨a1, e1, _, _⟩ := DataW.trod_int Tryz.underlying3 h1
    simp at e0 e1
    exact ⟨a0, a1, by simp [*]⟩
end
end Go.Proofs.YthgcmlhmhojjhaaGreatDoor.SpOpn
