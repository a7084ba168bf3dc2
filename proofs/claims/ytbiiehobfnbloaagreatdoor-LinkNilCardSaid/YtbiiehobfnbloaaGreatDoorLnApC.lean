import Derived.Test.YtbiiehobfnbloaaGreatDoorLnApG
import Derived.Test.YtbiiehobfnbloaaGreatDoorLnPkB
import Derived.ArgAppend
import Derived.Laws.IdiomStrings
namespace Go.Proofs.YtbiiehobfnbloaaGreatDoor.ApC
open Go Go.RowKit Mem Q Rg Ap ApG St BiW CrB
def Cells (w : World) (B : Nat) (v : Value) (n : Nat) (xs : List Value) : Prop :=
  ∃ g cap, v = .slice (some ⟨g, 0, none⟩) n cap ∧ B ≤ g ∧ g < w.heap.size ∧ n ≤ cap ∧ xs.length = n ∧ (∀ j, j < cap → (w.cell? ⟨g, j, none⟩).isSome = true ∧ w.frozen? ⟨g, j, none⟩ = false) ∧ ∀ j u, xs[j]? = some u → w.cell? ⟨g, j, none⟩ = some u
theorem Cells.below {w w' : World} {B n : Nat} {v : Value} {xs : List Value} (h : Cells w B v n xs) (hb : Below w.heap.size w w') : Cells w' B v n xs := by
  obtain ⟨g, cap, e, h1, h2, h3, h4, h5, h6⟩ := h
  refine ⟨g, cap, e, h1, Nat.lt_of_lt_of_le h2 hb.size, h3, h4, fun j hj => ?_, fun j u hu => ?_⟩
  · rw [hb.cell (p := ⟨g, j, none⟩) h2, World.frozen?_of_block (w := w) (hb.block g h2)]
    exact h5 j hj
  · rw [hb.cell (p := ⟨g, j, none⟩) h2]; exact h6 j u hu
section
variable {P : Program} {ops : Array Oper} {rest : List Oper} {o : Oper} {a : Act} {w : World} {Q : Exit → Act → World → Prop}
end
end Go.Proofs.YtbiiehobfnbloaaGreatDoor.ApC
