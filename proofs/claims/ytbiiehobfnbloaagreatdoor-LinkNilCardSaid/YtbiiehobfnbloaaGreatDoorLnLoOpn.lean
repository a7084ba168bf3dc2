import Derived.Test.YtbiiehobfnbloaaGreatDoorLnPkT
import Derived.Test.YtbiiehobfnbloaaGreatDoorLnOpS
import Derived.Test.YtbiiehobfnbloaaGreatDoorLnPkB
namespace Go.Proofs.YtbiiehobfnbloaaGreatDoor.LoOpn
open Go Go.RowKit Q Mem Ap Opn OpS Ints
open Go.ChangeShapes Go.WideShapes Go.ChangeAt Go.Joins
set_option maxRecDepth 100000
section
variable {H0 : Type} {enc : TypeId × Value → H0} {w : World} {base : Nat} {spare : Nat → Bool} {held : Bool}
theorem cfg_of {n : Nat} {cs : List Value} (hl : cs.length = 3) {x : DataW H0 × List MemPlace} (h : DataW.trod enc Tryz.prog w base spare held n 75 cs = some x) : ∃ R C K : Int, cs = [.int .i64 R, .int .i64 C, .int .i64 K] := by
  obtain ⟨ys, n', hn', hy, hlen, hyl, hf⟩ := DataW.trod_struct Tryz.underlying75 h
  match cs, hl, ys, hyl with
  | [c0, c1, c2], _, [y0, y1, y2], _ =>
    have h0 := hf 0 _ rfl
    have h1 := hf 1 _ rfl
    have h2 := hf 2 _ rfl
    rw [show Tryz.prog.cellsOf _ = 1 by kernel_rfl] at h0 h1 h2
    obtain ⟨a0, e0, _, _⟩ := DataW.trod_int Tryz.underlying3 h0
    obtain ⟨a1, e1, _, _⟩ := DataW.trod_int Tryz.underlying3 h1
    obtain ⟨a2, e2, _, _⟩ := DataW.trod_int Tryz.underlying3 h2
    simp at e0 e1 e2
    exact ⟨a0, a1, a2, by simp [*]⟩
end
end Go.Proofs.YtbiiehobfnbloaaGreatDoor.LoOpn
