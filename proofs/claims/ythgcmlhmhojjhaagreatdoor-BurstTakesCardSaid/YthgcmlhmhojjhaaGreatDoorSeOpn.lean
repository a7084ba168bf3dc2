/- The arguments of layer 8, opened. -/
import Derived.Test.YthgcmlhmhojjhaaGreatDoorPkS
import Derived.Test.YthgcmlhmhojjhaaGreatDoorPkA
import Derived.Test.YthgcmlhmhojjhaaGreatDoorPkT
import Derived.Lib.SmallJoins
import Derived.ChangeSlices
namespace Go.Proofs.YthgcmlhmhojjhaaGreatDoor.SeOpn
open Go.RowKit Go.Proofs.YthgcmlhmhojjhaaGreatDoor.Q Go.Proofs.YthgcmlhmhojjhaaGreatDoor.Mem Go.Proofs.YthgcmlhmhojjhaaGreatDoor.SeA Go.Proofs.YthgcmlhmhojjhaaGreatDoor.Ap Go.Proofs.YthgcmlhmhojjhaaGreatDoor.Opn
open Go.ChangeShapes Go.WideShapes Go.ChangeAt Go.Joins

theorem okWide_array {P : Program} {w : World} {r : Reach} {base n : Nat} {t e : TypeId} {v : Value} (ht : P.underlying t = some (.array n e)) (h : Value.okWide P w r base t v) : ∃ cs, v = .agg cs ∧ cs.size = P.cellsOf t := by
  simp only [Value.okWide, ht] at h
  obtain ⟨cs, h1, h2, _⟩ := h
  exact ⟨cs, h1, h2⟩
theorem okWide_struct {P : Program} {w : World} {r : Reach} {base : Nat} {t : TypeId} {fs : Array Field} {v : Value} (ht : P.underlying t = some (.struct fs)) (h : Value.okWide P w r base t v) : ∃ cs, v = .agg cs ∧ cs.size = P.cellsOf t := by
  simp only [Value.okWide, ht] at h
  obtain ⟨cs, h1, h2, _⟩ := h
  exact ⟨cs, h1, h2⟩
set_option maxRecDepth 100000
section
variable {H0 : Type} {enc : TypeId × Value → H0} {w : World} {base : Nat} {spare : Nat → Bool} {held : Bool}
theorem sc_of {n : Nat} {cs : List Value} (hl : cs.length = 8) {x : DataW H0 × List MemPlace} (h : DataW.trod enc Tryz.prog w base spare held n 153 cs = some x) : ∃ y : Sc, cs = y.vals.toList := by
  obtain ⟨ys, n', hn', hy, hlen, hyl, hf⟩ := DataW.trod_struct Tryz.underlying153 h
  match cs, hl, ys, hyl with
  | [c0, c1, c2, c3, c4, c5, c6, c7], _, [y0, y1, y2, y3, y4, y5, y6, y7], _ =>
    have h0 := hf 0 _ rfl
    have h1 := hf 1 _ rfl
    have h2 := hf 2 _ rfl
    have h3 := hf 3 _ rfl
    have h4 := hf 4 _ rfl
    have h5 := hf 5 _ rfl
    have h6 := hf 6 _ rfl
    have h7 := hf 7 _ rfl
    rw [show Tryz.prog.cellsOf _ = 1 by kernel_rfl] at h0 h1 h2 h3 h4 h5 h6 h7
    obtain ⟨a0, e0, _, _⟩ := DataW.trod_int Tryz.underlying3 h0
    obtain ⟨a1, e1, _⟩ := DataW.trod_bool Tryz.underlying4 h1
    obtain ⟨a2, e2, _, _⟩ := DataW.trod_int Tryz.underlying3 h2
    obtain ⟨a3, e3, _, _⟩ := DataW.trod_int Tryz.underlying3 h3
    obtain ⟨a4, e4, _⟩ := DataW.trod_bool Tryz.underlying4 h4
    obtain ⟨a5, e5, _, _⟩ := DataW.trod_int Tryz.underlying3 h5
    obtain ⟨a6, e6, _, _⟩ := DataW.trod_int Tryz.underlying3 h6
    obtain ⟨a7, e7, _, _⟩ := DataW.trod_string Tryz.underlying9 h7
    simp at e0 e1 e2 e3 e4 e5 e6 e7
    exact ⟨⟨a0, a1, a2, a3, a4, a5, a6, a7⟩, by simp [Sc.vals, *]⟩
theorem str_arg {v : Value} {r : Reach} {b0 : Nat} (h : Value.okWide Tryz.prog w r b0 9 v) : ∃ s : ByteArray, v = .string s := by
  simp only [Value.okWide, Tryz.underlying9, Cell.okWide] at h
  unfold Cell.ok at h
  rw [Tryz.underlying9] at h
  cases v with
  | string s => exact ⟨s, rfl⟩
  | _ => exact h.elim
theorem sc_arg {v : Value} {d : DataW H0} {p : List MemPlace} {r : Reach} {b0 : Nat} (hv : Value.okWide Tryz.prog w r b0 153 v) (h : DataW.Trod enc Tryz.prog w base spare held 153 v d p) : ∃ s : Sc, v = .agg s.vals := by
  obtain ⟨cs, rfl, hsz⟩ := okWide_struct Tryz.underlying153 hv
  obtain ⟨l⟩ := cs
  obtain ⟨fuel, hf⟩ := h
  obtain ⟨x, ex⟩ := sc_of (hsz.trans (show Tryz.prog.cellsOf 153 = 8 by kernel_rfl)) hf
  have : l = x.vals.toList := ex
  exact ⟨x, by rw [this]⟩
end
end Go.Proofs.YthgcmlhmhojjhaaGreatDoor.SeOpn
