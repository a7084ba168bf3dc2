/- Arguments of layer 19, opened: two lists of ints, losses. -/
import Derived.Test.YthgcmlhmhojjhaaGreatDoorSbLoOpn
import Derived.Test.YthgcmlhmhojjhaaGreatDoorSbSpOpn
import Derived.Test.YthgcmlhmhojjhaaGreatDoorSbGtA
namespace Go.Proofs.YthgcmlhmhojjhaaGreatDoor.BoOpn
open Go Go.RowKit Go.Proofs.YthgcmlhmhojjhaaGreatDoor.Q Go.Proofs.YthgcmlhmhojjhaaGreatDoor.Mem Go.Proofs.YthgcmlhmhojjhaaGreatDoor.Ap Go.Proofs.YthgcmlhmhojjhaaGreatDoor.Opn Go.Proofs.YthgcmlhmhojjhaaGreatDoor.OpS Go.Proofs.YthgcmlhmhojjhaaGreatDoor.Ints Go.Proofs.YthgcmlhmhojjhaaGreatDoor.SeOpn Go.Proofs.YthgcmlhmhojjhaaGreatDoor.SpOpn Go.Proofs.YthgcmlhmhojjhaaGreatDoor.LoOpn Go.Proofs.YthgcmlhmhojjhaaGreatDoor.GtA
open Go.ChangeShapes Go.WideShapes Go.ChangeAt Go.Joins

set_option maxRecDepth 100000
section
variable {H0 : Type} {enc : TypeId × Value → H0} {w : World} {base : Nat} {spare : Nat → Bool} {held : Bool}
theorem twos_of {n : Nat} {v : Value} {x : DataW H0 × List MemPlace} (h : DataW.trod enc Tryz.prog w base spare held n 44 [v] = some x) :
    ∃ (a : Option Addr) (cap : Nat) (zs : List (Int × Int)), v = .slice a zs.length cap ∧ zs.length ≤ 9223372036854775807 ∧ Seq enT2 2 w a zs := by
  obtain ⟨a, cap, L, rfl, hl, hs, _⟩ := seq_of (Q := fun _ : Int × Int => True) (en := enT2) (sz := 2) Tryz.underlying44 (by kernel_rfl) (by decide) (fun n cs x hc hx => by
    obtain ⟨a, b, e⟩ := two_of hx hc
    exact ⟨(a, b), e, trivial⟩) h
  exact ⟨a, cap, L, rfl, hl, hs⟩
theorem loss_of {n : Nat} {cs : List Value} (hl : cs.length = 2) {x : DataW H0 × List MemPlace} (h : DataW.trod enc Tryz.prog w base spare held n 46 cs = some x) :
    ∃ (ga : Option Addr) (gc : Nat) (g : List Int) (pa : Option Addr) (pc : Nat) (p : List (Int × Int)), cs = [.slice ga g.length gc, .slice pa p.length pc] ∧ Ints w ga g ∧ Seq enT2 2 w pa p ∧ g.length ≤ 9223372036854775807 ∧ p.length ≤ 9223372036854775807 := by
  obtain ⟨ys, n', hn', hy, hlen, hyl, hf⟩ := DataW.trod_struct Tryz.underlying46 h
  match cs, hl, ys, hyl with
  | [c0, c1], _, [y0, y1], _ =>
    have h0 := hf 0 _ rfl
    have h1 := hf 1 _ rfl
    rw [show Tryz.prog.cellsOf _ = 1 by kernel_rfl] at h0 h1
    obtain ⟨ga, gc, g, e0, g1, g2⟩ := ints_of (v := c0) h0
    obtain ⟨pa, pc, p, e1, p1, p2⟩ := twos_of (v := c1) h1
    exact ⟨ga, gc, g, pa, pc, p, by simp [e0, e1], g2, p2, g1, p1⟩
theorem loss_arg {v : Value} {d : DataW H0} {q : List MemPlace} {r : Reach} {b0 : Nat} (hv : Value.okWide Tryz.prog w r b0 46 v) (h : DataW.Trod enc Tryz.prog w base spare held 46 v d q) :
    ∃ (ga : Option Addr) (gc : Nat) (g : List Int) (pa : Option Addr) (pc : Nat) (p : List (Int × Int)), v = .agg #[.slice ga g.length gc, .slice pa p.length pc] ∧ Ints w ga g ∧ Seq enT2 2 w pa p ∧ g.length ≤ 9223372036854775807 ∧ p.length ≤ 9223372036854775807 := by
  obtain ⟨cs, rfl, hsz⟩ := TiOpn.okWide_struct Tryz.underlying46 hv
  obtain ⟨l⟩ := cs
  obtain ⟨fuel, hf⟩ := h
  obtain ⟨ga, gc, g, pa, pc, p, ex, hg⟩ := loss_of (hsz.trans (show Tryz.prog.cellsOf 46 = 2 by kernel_rfl)) hf
  have ex : l = _ := ex
  exact ⟨ga, gc, g, pa, pc, p, by rw [ex], hg⟩
end
end Go.Proofs.YthgcmlhmhojjhaaGreatDoor.BoOpn
