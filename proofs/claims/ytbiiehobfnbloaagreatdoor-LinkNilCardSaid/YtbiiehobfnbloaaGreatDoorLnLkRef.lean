import Derived.Test.YtbiiehobfnbloaaGreatDoorLnLkPass
namespace Go.Proofs.YtbiiehobfnbloaaGreatDoor.LkRef
open Go.RowKit Q Mem PkCut LkHarm LkPass
def Strs (w : World) (a : Option Addr) (A : List ByteArray) : Prop := ∀ i x, A[i]? = some x → ∃ b o, a = some ⟨b, o, none⟩ ∧ b < w.heap.size ∧ w.cell? ⟨b, o + i, none⟩ = some (.string x)
theorem Strs.below {w w' : World} {a : Option Addr} {A : List ByteArray} {B : Nat} (h : Strs w a A) (hB : w.heap.size ≤ B) (hb : Below B w w') : Strs w' a A := fun i x hi => by
  obtain ⟨b, o, e, hlt, hc⟩ := h i x hi
  exact ⟨b, o, e, by have := hb.size; omega, (hb.cell (p := ⟨b, _, none⟩) (by show b < B; omega)).trans hc⟩
section
variable {A : List ByteArray} {h : H} {k : Nat}
end
end Go.Proofs.YtbiiehobfnbloaaGreatDoor.LkRef
