/- Arguments of layer 19, opened: two lists of ints, losses. -/
import Derived.Test.YthgcmlhmhojjhaaGreatDoorOdLoOpn
import Derived.Test.YthgcmlhmhojjhaaGreatDoorOdSpOpn
import Derived.Test.YthgcmlhmhojjhaaGreatDoorOdGtA
namespace Go.Proofs.YthgcmlhmhojjhaaGreatDoor.BoOpn
open Go Go.RowKit Go.Proofs.YthgcmlhmhojjhaaGreatDoor.Q Go.Proofs.YthgcmlhmhojjhaaGreatDoor.Mem Go.Proofs.YthgcmlhmhojjhaaGreatDoor.Ap Go.Proofs.YthgcmlhmhojjhaaGreatDoor.Opn Go.Proofs.YthgcmlhmhojjhaaGreatDoor.OpS Go.Proofs.YthgcmlhmhojjhaaGreatDoor.Ints Go.Proofs.YthgcmlhmhojjhaaGreatDoor.SeOpn Go.Proofs.YthgcmlhmhojjhaaGreatDoor.SpOpn Go.Proofs.YthgcmlhmhojjhaaGreatDoor.LoOpn Go.Proofs.YthgcmlhmhojjhaaGreatDoor.GtA
open Go.ChangeShapes Go.WideShapes Go.ChangeAt Go.Joins

set_option maxRecDepth 100000
section
variable {H0 : Type} {enc : TypeId × Value → H0} {w : World} {base : Nat} {spare : Nat → Bool} {held : Bool}
theorem lists_of {n : Nat} {cs : List Value} {x : DataW H0 × List MemPlace} (h : DataW.trod enc Tryz.prog w base spare held n 60 cs = some x) (hl : cs.length = 2) :
    ∃ (ga : Option Addr) (gc : Nat) (g : List Int) (pa : Option Addr) (pc : Nat) (p : List Int), cs = [.slice ga g.length gc, .slice pa p.length pc] ∧ Ints w ga g ∧ Ints w pa p ∧ g.length ≤ 9223372036854775807 ∧ p.length ≤ 9223372036854775807 := by
  obtain ⟨xs, m, _, _, _, hlx, hel⟩ := DataW.trod_array Tryz.underlying60 h
  match cs, hl, xs, hlx with
  | [c0, c1], _, [y0, y1], _ =>
    have h0 := hel 0 (by omega)
    have h1 := hel 1 (by omega)
    rw [show Tryz.prog.cellsOf _ = 1 by kernel_rfl] at h0 h1
    obtain ⟨ga, gc, g, e0, g1, g2⟩ := ints_of (v := c0) h0
    obtain ⟨pa, pc, p, e1, p1, p2⟩ := ints_of (v := c1) h1
    exact ⟨ga, gc, g, pa, pc, p, by simp [e0, e1], g2, p2, g1, p1⟩
theorem lists_arg {v : Value} {d : DataW H0} {q : List MemPlace} {r : Reach} {b0 : Nat} (hv : Value.okWide Tryz.prog w r b0 60 v) (h : DataW.Trod enc Tryz.prog w base spare held 60 v d q) :
    ∃ (ga : Option Addr) (gc : Nat) (g : List Int) (pa : Option Addr) (pc : Nat) (p : List Int), v = .agg #[.slice ga g.length gc, .slice pa p.length pc] ∧ Ints w ga g ∧ Ints w pa p ∧ g.length ≤ 9223372036854775807 ∧ p.length ≤ 9223372036854775807 := by
  obtain ⟨cs, rfl, hsz⟩ := okWide_array Tryz.underlying60 hv
  obtain ⟨l⟩ := cs
  obtain ⟨fuel, hf⟩ := h
  obtain ⟨ga, gc, g, pa, pc, p, e, hg⟩ := lists_of hf (hsz.trans (show Tryz.prog.cellsOf 60 = 2 by kernel_rfl))
  have e : l = _ := e
  exact ⟨ga, gc, g, pa, pc, p, by rw [e], hg⟩
end
end Go.Proofs.YthgcmlhmhojjhaaGreatDoor.BoOpn
