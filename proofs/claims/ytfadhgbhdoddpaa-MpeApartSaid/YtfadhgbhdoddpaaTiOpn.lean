/- Arguments, opened: strings, ints, bytes, times. -/
import Derived.Test.YtfadhgbhdoddpaaTmA
import Derived.Test.YtfadhgbhdoddpaaLaw
import Derived.Test.YtfadhgbhdoddpaaOpn
import Derived.Lib.SmallJoins
import Derived.ChangeSlices
namespace Go.Proofs.Ytfadhgbhdoddpaa.TiOpn
open Go.RowKit Go.Proofs.Ytfadhgbhdoddpaa.Q Go.Proofs.Ytfadhgbhdoddpaa.Mem Go.Proofs.Ytfadhgbhdoddpaa.TmA Go.Proofs.Ytfadhgbhdoddpaa.Opn
open Go.ChangeShapes Go.WideShapes Go.ChangeAt Go.Joins

theorem okWide_struct {P : Program} {w : World} {r : Reach} {base : Nat} {t : TypeId} {fs : Array Field} {v : Value} (ht : P.underlying t = some (.struct fs)) (h : Value.okWide P w r base t v) : ∃ cs, v = .agg cs ∧ cs.size = P.cellsOf t := by
  simp only [Value.okWide, ht] at h
  obtain ⟨cs, h1, h2, _⟩ := h
  exact ⟨cs, h1, h2⟩
set_option maxRecDepth 100000
section
variable {H0 : Type} {enc : TypeId × Value → H0} {w : World} {base : Nat} {spare : Nat → Bool} {held : Bool}
theorem ti_of {n : Nat} {cs : List Value} (hl : cs.length = 4) {x : DataW H0 × List MemPlace} (h : DataW.trod enc Try.prog w base spare held n 23 cs = some x) : ∃ y : Ti, cs = y.vals.toList := by
  obtain ⟨ys, n', hn', hy, hlen, hyl, hf⟩ := DataW.trod_struct Try.underlying23 h
  match cs, hl, ys, hyl with
  | [c0, c1, c2, c3], _, [y0, y1, y2, y3], _ =>
    have h0 := hf 0 _ rfl
    have h1 := hf 1 _ rfl
    have h2 := hf 2 _ rfl
    have h3 := hf 3 _ rfl
    rw [show Try.prog.cellsOf _ = 1 by kernel_rfl] at h0 h1 h2 h3
    obtain ⟨a0, e0, _, _⟩ := DataW.trod_int Try.underlying3 h0
    obtain ⟨a1, e1, _⟩ := DataW.trod_bool Try.underlying4 h1
    obtain ⟨a2, e2, _⟩ := DataW.trod_bool Try.underlying4 h2
    obtain ⟨a3, e3, _, _⟩ := DataW.trod_int Try.underlying3 h3
    simp at e0 e1 e2 e3
    exact ⟨⟨a0, a1, a2, a3⟩, by simp [Ti.vals, *]⟩
theorem str_arg {v : Value} {r : Reach} {b0 : Nat} (h : Value.okWide Try.prog w r b0 9 v) : ∃ s : ByteArray, v = .string s := by
  simp only [Value.okWide, Try.underlying9, Cell.okWide] at h
  unfold Cell.ok at h
  rw [Try.underlying9] at h
  cases v with
  | string s => exact ⟨s, rfl⟩
  | _ => exact h.elim
theorem int_arg {v : Value} {r : Reach} {b0 : Nat} (h : Value.okWide Try.prog w r b0 3 v) : ∃ n : Int, v = .int .i64 n := by
  simp only [Value.okWide, Try.underlying3, Cell.okWide] at h
  unfold Cell.ok at h
  rw [Try.underlying3] at h
  cases v with
  | int k n => obtain ⟨rfl, _⟩ := h; exact ⟨n, rfl⟩
  | _ => exact h.elim
theorem u8_arg {v : Value} {r : Reach} {b0 : Nat} (h : Value.okWide Try.prog w r b0 5 v) : ∃ n : Int, v = .int .u8 n ∧ 0 ≤ n ∧ n < 256 := by
  simp only [Value.okWide, Try.underlying5, Cell.okWide] at h
  unfold Cell.ok at h
  rw [Try.underlying5] at h
  cases v with
  | int k n =>
    obtain ⟨rfl, h1, h2⟩ := h
    refine ⟨n, rfl, ?_, ?_⟩
    · exact h1
    · have : n ≤ 255 := h2
      omega
  | _ => exact h.elim
theorem ti_arg {v : Value} {d : DataW H0} {p : List MemPlace} {r : Reach} {b0 : Nat} (hv : Value.okWide Try.prog w r b0 23 v) (h : DataW.Trod enc Try.prog w base spare held 23 v d p) : ∃ s : Ti, v = .agg s.vals := by
  obtain ⟨cs, rfl, hsz⟩ := okWide_struct Try.underlying23 hv
  obtain ⟨l⟩ := cs
  obtain ⟨fuel, hf⟩ := h
  obtain ⟨x, ex⟩ := ti_of (hsz.trans (show Try.prog.cellsOf 23 = 4 by kernel_rfl)) hf
  have : l = x.vals.toList := ex
  exact ⟨x, by rw [this]⟩
end
end Go.Proofs.Ytfadhgbhdoddpaa.TiOpn
