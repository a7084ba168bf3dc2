/- The arrays of layer 8, opened. -/
import Derived.Test.YtpigkccfepmmgaaSeOpn
import Derived.OpenShut
namespace Go.Proofs.Ytpigkccfepmmgaa.SpOpm
open Go.RowKit Go.Proofs.Ytpigkccfepmmgaa.Q Go.Proofs.Ytpigkccfepmmgaa.Mem Go.Proofs.Ytpigkccfepmmgaa.SeA Go.Proofs.Ytpigkccfepmmgaa.Ap Go.Proofs.Ytpigkccfepmmgaa.Opn Go.Proofs.Ytpigkccfepmmgaa.SeOpn
open Go.ChangeShapes Go.WideShapes Go.ChangeAt Go.Joins
set_option maxRecDepth 100000
section
variable {H0 : Type} {enc : TypeId × Value → H0} {w : World} {base : Nat} {spare : Nat → Bool} {held : Bool}
theorem two_of {n : Nat} {cs : List Value} {x : DataW H0 × List MemPlace} (h : DataW.trod enc Try.prog w base spare held n 46 cs = some x) (hl : cs.length = 2) : ∃ a b : Int, cs = [.int .i64 a, .int .i64 b] := by
  obtain ⟨xs, m, _, _, _, hlx, hel⟩ := DataW.trod_array Try.underlying46 h
  match cs, hl, xs, hlx with
  | [c0, c1], _, [y0, y1], _ =>
    have h0 := hel 0 (by omega)
    have h1 := hel 1 (by omega)
    rw [show Try.prog.cellsOf _ = 1 by kernel_rfl] at h0 h1
    obtain ⟨a0, e0, _, _⟩ := DataW.trod_int Try.underlying3 h0
    obtain ⟨a1, e1, _, _⟩ := DataW.trod_int Try.underlying3 h1
    simp at e0 e1
    exact ⟨a0, a1, by simp [*]⟩
theorem two_arg {v : Value} {d : DataW H0} {p : List MemPlace} {r : Reach} {b0 : Nat} (hv : Value.okWide Try.prog w r b0 46 v) (h : DataW.Trod enc Try.prog w base spare held 46 v d p) : ∃ a b : Int, v = .agg #[.int .i64 a, .int .i64 b] := by
  obtain ⟨cs, rfl, hsz⟩ := okWide_array Try.underlying46 hv
  obtain ⟨l⟩ := cs
  obtain ⟨fuel, hf⟩ := h
  obtain ⟨a, b, e⟩ := two_of hf (hsz.trans (show Try.prog.cellsOf 46 = 2 by kernel_rfl))
  have e : l = _ := e
  exact ⟨a, b, by rw [e]⟩
theorem three_of {n : Nat} {cs : List Value} {x : DataW H0 × List MemPlace} (h : DataW.trod enc Try.prog w base spare held n 35 cs = some x) (hl : cs.length = 3) : ∃ a b c : Int, cs = [.int .i64 a, .int .i64 b, .int .i64 c] := by
  obtain ⟨xs, m, _, _, _, hlx, hel⟩ := DataW.trod_array Try.underlying35 h
  match cs, hl, xs, hlx with
  | [c0, c1, c2], _, [y0, y1, y2], _ =>
    have h0 := hel 0 (by omega)
    have h1 := hel 1 (by omega)
    have h2 := hel 2 (by omega)
    rw [show Try.prog.cellsOf _ = 1 by kernel_rfl] at h0 h1 h2
    obtain ⟨a0, e0, _, _⟩ := DataW.trod_int Try.underlying3 h0
    obtain ⟨a1, e1, _, _⟩ := DataW.trod_int Try.underlying3 h1
    obtain ⟨a2, e2, _, _⟩ := DataW.trod_int Try.underlying3 h2
    simp at e0 e1 e2
    exact ⟨a0, a1, a2, by simp [*]⟩
theorem three_arg {v : Value} {d : DataW H0} {p : List MemPlace} {r : Reach} {b0 : Nat} (hv : Value.okWide Try.prog w r b0 35 v) (h : DataW.Trod enc Try.prog w base spare held 35 v d p) : ∃ a b c : Int, v = .agg #[.int .i64 a, .int .i64 b, .int .i64 c] := by
  obtain ⟨cs, rfl, hsz⟩ := okWide_array Try.underlying35 hv
  obtain ⟨l⟩ := cs
  obtain ⟨fuel, hf⟩ := h
  obtain ⟨a, b, c, e⟩ := three_of hf (hsz.trans (show Try.prog.cellsOf 35 = 3 by kernel_rfl))
  have e : l = _ := e
  exact ⟨a, b, c, by rw [e]⟩
end
end Go.Proofs.Ytpigkccfepmmgaa.SpOpm
