/- Arguments of layer 11, opened. -/
import Derived.Test.YtfadhgbhdoddpaaDoorTiOpn
import Derived.Test.YtfadhgbhdoddpaaDoorFcA
namespace Go.Proofs.YtfadhgbhdoddpaaDoor.FcOpn
open Go.RowKit Go.Proofs.YtfadhgbhdoddpaaDoor.Q Go.Proofs.YtfadhgbhdoddpaaDoor.Mem Go.Proofs.YtfadhgbhdoddpaaDoor.TmA Go.Proofs.YtfadhgbhdoddpaaDoor.FcA Go.Proofs.YtfadhgbhdoddpaaDoor.Opn Go.Proofs.YtfadhgbhdoddpaaDoor.TiOpn
open Go.ChangeShapes Go.WideShapes Go.ChangeAt Go.Joins

set_option maxRecDepth 100000
section
variable {H0 : Type} {enc : TypeId × Value → H0} {w : World} {base : Nat} {spare : Nat → Bool} {held : Bool}
theorem fp_of {n : Nat} {cs : List Value} (hl : cs.length = 8) {x : DataW H0 × List MemPlace} (h : DataW.trod enc Tryd.prog w base spare held n 25 cs = some x) : ∃ y : Fp, cs = y.vals.toList := by
  obtain ⟨ys, n', hn', hy, hlen, hyl, hf⟩ := DataW.trod_struct Tryd.underlying25 h
  match cs, hl, ys, hyl with
  | [c0, c1, c2, c3, c4, c5, c6, c7], _, [y0, y1, y2, y3, y4], _ =>
    have h0 := hf 0 _ rfl
    have h1 := hf 1 _ rfl
    have h2 := hf 2 _ rfl
    have h3 := hf 3 _ rfl
    have h4 := hf 4 _ rfl
    rw [show Tryd.prog.cellsOf _ = 1 by kernel_rfl] at h0 h1 h2 h4
    rw [show Tryd.prog.cellsOf _ = 4 by kernel_rfl] at h3
    obtain ⟨a0, e0, _, _⟩ := DataW.trod_int Tryd.underlying3 h0
    obtain ⟨a1, e1, _, _⟩ := DataW.trod_int Tryd.underlying3 h1
    obtain ⟨a2, e2, _, _⟩ := DataW.trod_int Tryd.underlying3 h2
    obtain ⟨t, et⟩ := ti_of (by rfl) h3
    obtain ⟨a4, e4, _, _⟩ := DataW.trod_string Tryd.underlying9 h4
    simp at e0 e1 e2 e4
    have et' : [c3, c4, c5, c6] = t.vals.toList := et
    simp [Ti.vals] at et'
    exact ⟨⟨a0, a1, a2, t, a4⟩, by simp [Fp.vals, *]⟩
theorem fp_arg {v : Value} {d : DataW H0} {p : List MemPlace} {r : Reach} {b0 : Nat} (hv : Value.okWide Tryd.prog w r b0 25 v) (h : DataW.Trod enc Tryd.prog w base spare held 25 v d p) : ∃ s : Fp, v = .agg s.vals := by
  obtain ⟨cs, rfl, hsz⟩ := TiOpn.okWide_struct Tryd.underlying25 hv
  obtain ⟨l⟩ := cs
  obtain ⟨fuel, hf⟩ := h
  obtain ⟨x, ex⟩ := fp_of (hsz.trans (show Tryd.prog.cellsOf 25 = 8 by kernel_rfl)) hf
  have : l = x.vals.toList := ex
  exact ⟨x, by rw [this]⟩
end
end Go.Proofs.YtfadhgbhdoddpaaDoor.FcOpn
