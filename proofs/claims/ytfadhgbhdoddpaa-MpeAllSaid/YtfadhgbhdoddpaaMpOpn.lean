/- Arguments of layer 10, opened. -/
import Derived.Test.YtfadhgbhdoddpaaPkT
import Derived.Test.YtfadhgbhdoddpaaMpA
namespace Go.Proofs.Ytfadhgbhdoddpaa.MpOpn
open Go.RowKit Go.Proofs.Ytfadhgbhdoddpaa.Q Go.Proofs.Ytfadhgbhdoddpaa.Mem Go.Proofs.Ytfadhgbhdoddpaa.TmA Go.Proofs.Ytfadhgbhdoddpaa.MpA Go.Proofs.Ytfadhgbhdoddpaa.Opn Go.Proofs.Ytfadhgbhdoddpaa.TiOpn
open Go.ChangeShapes Go.WideShapes Go.ChangeAt Go.Joins

set_option maxRecDepth 100000
section
variable {H0 : Type} {enc : TypeId × Value → H0} {w : World} {base : Nat} {spare : Nat → Bool} {held : Bool}
theorem mp_of {n : Nat} {cs : List Value} (hl : cs.length = 6) {x : DataW H0 × List MemPlace} (h : DataW.trod enc Try.prog w base spare held n 25 cs = some x) : ∃ y : Mp, cs = y.vals.toList := by
  obtain ⟨ys, n', hn', hy, hlen, hyl, hf⟩ := DataW.trod_struct Try.underlying25 h
  match cs, hl, ys, hyl with
  | [c0, c1, c2, c3, c4, c5], _, [y0, y1, y2], _ =>
    have h0 := hf 0 _ rfl
    have h1 := hf 1 _ rfl
    have h2 := hf 2 _ rfl
    rw [show Try.prog.cellsOf _ = 1 by kernel_rfl] at h0 h2
    rw [show Try.prog.cellsOf _ = 4 by kernel_rfl] at h1
    obtain ⟨a0, e0, _, _⟩ := DataW.trod_int Try.underlying3 h0
    obtain ⟨t, et⟩ := ti_of (by rfl) h1
    obtain ⟨a2, e2, _, _⟩ := DataW.trod_string Try.underlying9 h2
    simp at e0 e2
    have et' : [c1, c2, c3, c4] = t.vals.toList := et
    simp [Ti.vals] at et'
    exact ⟨⟨a0, t, a2⟩, by simp [Mp.vals, *]⟩
theorem mp_arg {v : Value} {d : DataW H0} {p : List MemPlace} {r : Reach} {b0 : Nat} (hv : Value.okWide Try.prog w r b0 25 v) (h : DataW.Trod enc Try.prog w base spare held 25 v d p) : ∃ s : Mp, v = .agg s.vals := by
  obtain ⟨cs, rfl, hsz⟩ := TiOpn.okWide_struct Try.underlying25 hv
  obtain ⟨l⟩ := cs
  obtain ⟨fuel, hf⟩ := h
  obtain ⟨x, ex⟩ := mp_of (hsz.trans (show Try.prog.cellsOf 25 = 6 by kernel_rfl)) hf
  have : l = x.vals.toList := ex
  exact ⟨x, by rw [this]⟩
end
end Go.Proofs.Ytfadhgbhdoddpaa.MpOpn
