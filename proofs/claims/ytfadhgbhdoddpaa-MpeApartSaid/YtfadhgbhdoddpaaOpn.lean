/- Words to open arguments: a slice that came in is nil, or lies in a block that is there, at a plain place. -/
import Derived.WalkKit
import Derived.ProofKit
import Derived.OpenShut
import Derived.Deep.Slices
import Derived.Deep.Fields
import Derived.ChangeSame
namespace Go.Proofs.Ytfadhgbhdoddpaa.Opn
open Go.ChangeShapes Go.WideShapes Go.RowKit Go.Deep

section
variable {H : Type} {enc : TypeId × Value → H} {P : Program} {w : World} {base : Nat} {spare : Nat → Bool} {held : Bool}

theorem slice_ok {r : Reach} {b0 : Nat} {t e : TypeId} {v : Value} (ht : P.underlying t = some (.slice e)) (h : Value.okWide P w r b0 t v) :
    v = .slice none 0 0 ∨ ∃ b o len cap, v = .slice (some ⟨b, o, none⟩) len cap ∧ b < w.heap.size ∧ len ≤ cap ∧ cap ≤ 9223372036854775807 := by
  simp only [Value.okWide, ht, Cell.okWide] at h
  unfold Cell.ok at h
  rw [ht] at h
  cases v with
  | slice a len cap =>
    cases a with
    | none =>
      match len, cap, h with
      | 0, 0, _ => exact .inl rfl
    | some a =>
      obtain ⟨h1, h2, _, h4, row, cells, h5, _⟩ := h
      obtain ⟨b, o, spot⟩ := a
      simp only at h4 h5
      subst h4
      refine .inr ⟨b, o, len, cap, rfl, ?_, h1, by simp [IntKind.max, IntKind.signed, IntKind.bits] at h2; omega⟩
      unfold World.shape? at h5
      rcases Nat.lt_or_ge b w.heap.size with hlt | hge
      · exact hlt
      · rw [Array.getElem?_eq_none hge] at h5; cases h5
  | _ => exact h.elim

theorem add_at (b o n : Nat) : (⟨b, o, none⟩ : Addr).add n = ⟨b, o + n, none⟩ := by
  unfold Addr.add
  split <;> simp_all

/-- each element's cells, of a slice that is not nil -/
theorem elems {t e : TypeId} {b o len cap : Nat} {d : DataW H} {p : List MemPlace} (ht : P.underlying t = some (.slice e)) (h : DataW.Trod enc P w base spare held t (.slice (some ⟨b, o, none⟩) len cap) d p) :
    ∀ i, i < len → ∃ (cs : List Value) (n : Nat) (x : DataW H × List MemPlace), cs.length = P.cellsOf e ∧ (∀ j v, cs[j]? = some v → w.cell? ⟨b, o + i * P.cellsOf e + j, none⟩ = some v) ∧ DataW.trod enc P w base spare held n e cs = some x := by
  obtain ⟨fuel, h⟩ := h
  rcases open_slice ht h with ⟨h0, _⟩ | ⟨a, l, c, m, n, D, Pl, hcs, _, hl, _, hm, _, hi⟩
  · simp [Value.cells] at h0
  · simp only [Value.cells, List.cons.injEq, Value.slice.injEq, Option.some.injEq, and_true] at hcs
    obtain ⟨rfl, rfl, rfl⟩ := hcs
    intro i hil
    obtain ⟨cs, hc, ht'⟩ := hi i (by split at hm <;> omega)
    obtain ⟨_, hlen, hat⟩ := World.cells?_some hc
    refine ⟨cs, n, _, hlen, fun j v hj => ?_, ht'⟩
    have hjl : j < cs.length := (List.getElem?_eq_some_iff.1 hj).1
    have := hat j (by omega)
    rw [add_at, add_at] at this
    rw [this, hj]
end
end Go.Proofs.Ytfadhgbhdoddpaa.Opn
