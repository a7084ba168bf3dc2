/- The arguments of layer 18, opened. -/
import Derived.Test.YtbceakdifklocaaDsE
import Derived.Test.YtbceakdifklocaaLaw
import Derived.Test.YtbceakdifklocaaOpn
import Derived.Lib.SmallJoins
import Derived.ChangeSlices
namespace Go.Proofs.Ytbceakdifklocaa.DsOpn
open Go.RowKit Go.Proofs.Ytbceakdifklocaa.Q Go.Proofs.Ytbceakdifklocaa.Mem Go.Proofs.Ytbceakdifklocaa.DsA Go.Proofs.Ytbceakdifklocaa.DsB Go.Proofs.Ytbceakdifklocaa.DsC Go.Proofs.Ytbceakdifklocaa.DsD Go.Proofs.Ytbceakdifklocaa.DsE Go.Proofs.Ytbceakdifklocaa.Opn
open Go.ChangeShapes Go.WideShapes Go.ChangeAt Go.Joins

theorem okWide_array {P : Program} {w : World} {r : Reach} {base n : Nat} {t e : TypeId} {v : Value} (ht : P.underlying t = some (.array n e)) (h : Value.okWide P w r base t v) : ∃ cs, v = .agg cs ∧ cs.size = P.cellsOf t := by
  simp only [Value.okWide, ht] at h
  obtain ⟨cs, h1, h2, _⟩ := h
  exact ⟨cs, h1, h2⟩
theorem okWide_struct {P : Program} {w : World} {r : Reach} {base : Nat} {t : TypeId} {fs : Array Field} {v : Value} (ht : P.underlying t = some (.struct fs)) (h : Value.okWide P w r base t v) : ∃ cs, v = .agg cs ∧ cs.size = P.cellsOf t := by
  simp only [Value.okWide, ht] at h
  obtain ⟨cs, h1, h2, _⟩ := h
  exact ⟨cs, h1, h2⟩

set_option maxRecDepth 100000
section
variable {H0 : Type} {enc : TypeId × Value → H0} {w : World} {base : Nat} {spare : Nat → Bool} {held : Bool}
theorem sl_of {n : Nat} {cs : List Value} (hl : cs.length = 7) {x : DataW H0 × List MemPlace} (h : DataW.trod enc Try.prog w base spare held n 23 cs = some x) : ∃ y : Sl, cs = y.vals.toList := by
  obtain ⟨ys, n', hn', hy, hlen, hyl, hf⟩ := DataW.trod_struct Try.underlying23 h
  match cs, hl, ys, hyl with
  | [c0, c1, c2, c3, c4, c5, c6], _, [y0, y1, y2, y3, y4, y5, y6], _ =>
    have h0 := hf 0 _ rfl
    have h1 := hf 1 _ rfl
    have h2 := hf 2 _ rfl
    have h3 := hf 3 _ rfl
    have h4 := hf 4 _ rfl
    have h5 := hf 5 _ rfl
    have h6 := hf 6 _ rfl
    rw [show Try.prog.cellsOf _ = 1 by kernel_rfl] at h0 h1 h2 h3 h4 h5 h6
    obtain ⟨a0, e0, _⟩ := DataW.trod_bool Try.underlying4 h0
    obtain ⟨a1, e1, _⟩ := DataW.trod_bool Try.underlying4 h1
    obtain ⟨a2, e2, _, _⟩ := DataW.trod_int Try.underlying3 h2
    obtain ⟨a3, e3, _, _⟩ := DataW.trod_int Try.underlying3 h3
    obtain ⟨a4, e4, _, _⟩ := DataW.trod_int Try.underlying3 h4
    obtain ⟨a5, e5, _, _⟩ := DataW.trod_int Try.underlying3 h5
    obtain ⟨a6, e6, _, _⟩ := DataW.trod_string Try.underlying9 h6
    simp at e0 e1 e2 e3 e4 e5 e6
    exact ⟨⟨a0, a1, a2, a3, a4, a5, a6⟩, by simp [Sl.vals, *]⟩
theorem pl_of {n : Nat} {cs : List Value} (hl : cs.length = 5) {x : DataW H0 × List MemPlace} (h : DataW.trod enc Try.prog w base spare held n 26 cs = some x) : ∃ y : Pl, cs = y.vals.toList := by
  obtain ⟨ys, n', hn', hy, hlen, hyl, hf⟩ := DataW.trod_struct Try.underlying26 h
  match cs, hl, ys, hyl with
  | [c0, c1, c2, c3, c4], _, [y0, y1, y2, y3, y4], _ =>
    have h0 := hf 0 _ rfl
    have h1 := hf 1 _ rfl
    have h2 := hf 2 _ rfl
    have h3 := hf 3 _ rfl
    have h4 := hf 4 _ rfl
    rw [show Try.prog.cellsOf _ = 1 by kernel_rfl] at h0 h1 h2 h3 h4
    obtain ⟨a0, e0, _, _⟩ := DataW.trod_int Try.underlying3 h0
    obtain ⟨a1, e1, _, _⟩ := DataW.trod_int Try.underlying3 h1
    obtain ⟨a2, e2, _, _⟩ := DataW.trod_int Try.underlying3 h2
    obtain ⟨a3, e3, _, _⟩ := DataW.trod_int Try.underlying3 h3
    obtain ⟨a4, e4, _, _⟩ := DataW.trod_int Try.underlying3 h4
    simp at e0 e1 e2 e3 e4
    exact ⟨⟨a0, a1, a2, a3, a4⟩, by simp [Pl.vals, *]⟩
theorem dc_of {n : Nat} {cs : List Value} (hl : cs.length = 2) {x : DataW H0 × List MemPlace} (h : DataW.trod enc Try.prog w base spare held n 30 cs = some x) : ∃ y : Dc, cs = [.int .i64 y.tag, .string y.body] ∧ (-9223372036854775808 ≤ y.tag ∧ y.tag ≤ 9223372036854775807) := by
  obtain ⟨ys, n', hn', hy, hlen, hyl, hf⟩ := DataW.trod_struct Try.underlying30 h
  match cs, hl, ys, hyl with
  | [c0, c1], _, [y0, y1], _ =>
    have h0 := hf 0 _ rfl
    have h1 := hf 1 _ rfl
    rw [show Try.prog.cellsOf _ = 1 by kernel_rfl] at h0 h1
    obtain ⟨a0, e0, _, f0⟩ := DataW.trod_int Try.underlying3 h0
    obtain ⟨a1, e1, _, _⟩ := DataW.trod_string Try.underlying9 h1
    simp at e0 e1
    exact ⟨⟨a0, a1⟩, by simp [*], bounds_i64 f0⟩
theorem dcs_of {b o len cap : Nat} {d : DataW H0} {p : List MemPlace} {t : TypeId} (hb : b < w.heap.size) (ht : Try.prog.underlying t = some (.slice 30)) (h : DataW.Trod enc Try.prog w base spare held t (.slice (some ⟨b, o, none⟩) len cap) d p) :
    ∃ l : List Dc, l.length = len ∧ Ds w (some ⟨b, o, none⟩) l := by
  have hC : Try.prog.cellsOf 30 = 2 := by kernel_rfl
  have he := elems ht h
  rw [hC] at he
  have hall : ∀ i : Fin len, ∃ y : Dc, w.cell? ⟨b, o + i * 2, none⟩ = some (.int .i64 y.tag) ∧ w.cell? ⟨b, o + i * 2 + 1, none⟩ = some (.string y.body) := by
    intro i
    obtain ⟨cs, n, x, hcl, hcell, htr⟩ := he i i.isLt
    obtain ⟨y, rfl, _⟩ := dc_of hcl htr
    exact ⟨y, hcell 0 _ rfl, hcell 1 _ rfl⟩
  obtain ⟨f, hf⟩ := Classical.axiomOfChoice hall
  refine ⟨List.ofFn f, List.length_ofFn, fun i x hi => ?_⟩
  rw [List.getElem?_ofFn] at hi
  split at hi
  · injection hi with hi
    subst hi
    obtain ⟨q0, q1⟩ := hf ⟨i, by assumption⟩
    exact ⟨b, o, rfl, hb, q0, q1⟩
  · cases hi
end
end Go.Proofs.Ytbceakdifklocaa.DsOpn
