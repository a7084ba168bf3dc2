/- The document's table: lay, Put, Parity, Pad. -/
import Derived.Test.YthgcmlhmhojjhaaGreatDoorRtM
namespace Go.Proofs.YthgcmlhmhojjhaaGreatDoor.RtN
open Go Go.RowKit Go.Proofs.YthgcmlhmhojjhaaGreatDoor.Q Go.Proofs.YthgcmlhmhojjhaaGreatDoor.Mem Go.Proofs.YthgcmlhmhojjhaaGreatDoor.Rg Go.Proofs.YthgcmlhmhojjhaaGreatDoor.Ap Go.Proofs.YthgcmlhmhojjhaaGreatDoor.ApG Go.Proofs.YthgcmlhmhojjhaaGreatDoor.St Go.Proofs.YthgcmlhmhojjhaaGreatDoor.BiW Go.Proofs.YthgcmlhmhojjhaaGreatDoor.TlS Go.Proofs.YthgcmlhmhojjhaaGreatDoor.TbM Go.Proofs.YthgcmlhmhojjhaaGreatDoor.TbN Go.Proofs.YthgcmlhmhojjhaaGreatDoor.TbO Go.Proofs.YthgcmlhmhojjhaaGreatDoor.TbP Go.Proofs.YthgcmlhmhojjhaaGreatDoor.TbR Go.Proofs.YthgcmlhmhojjhaaGreatDoor.RtM

set_option maxRecDepth 100000
variable {w w' : World} {B gx g1 g2 g3 : Nat} {S : Tb}
theorem kept1 (h : Kept (feet gx g1 g2 g3) w w') {p : Nat} {u : Value} : Kept (feet gx g1 g2 g3) w (w'.setCell ⟨g1, p, none⟩ u) := h.trans (kept_set (F := feet gx g1 g2 g3) (Or.inr (Or.inl rfl))) (fun _ _ h => h)
theorem kept2 (h : Kept (feet gx g1 g2 g3) w w') {p : Nat} {u : Value} : Kept (feet gx g1 g2 g3) w (w'.setCell ⟨g2, p, none⟩ u) := h.trans (kept_set (F := feet gx g1 g2 g3) (Or.inr (Or.inr (Or.inl rfl)))) (fun _ _ h => h)
theorem kept3 (h : Kept (feet gx g1 g2 g3) w w') {p : Nat} {u : Value} : Kept (feet gx g1 g2 g3) w (w'.setCell ⟨g3, p, none⟩ u) := h.trans (kept_set (F := feet gx g1 g2 g3) (Or.inr (Or.inr (Or.inr rfl)))) (fun _ _ h => h)
theorem set_two (S : Tb) (p : Nat) (c : UInt8) : ({ S with b := fun i => if i = p then c else S.b i } : Tb).mark p = S.set p c := rfl
theorem ins_mem (L : List Nat) (i x p : Nat) : p ∈ ins L i x ↔ p = x ∨ p ∈ L := by
  unfold ins
  rw [List.mem_append, List.mem_cons]
  constructor
  · rintro (h | h | h)
    · exact Or.inr (List.mem_of_mem_take h)
    · exact Or.inl h
    · exact Or.inr (List.mem_of_mem_drop h)
  · rintro (h | h)
    · exact Or.inr (Or.inl h)
    · have : p ∈ L.take i ++ L.drop i := by rw [List.take_append_drop]; exact h
      rcases List.mem_append.1 this with h | h
      · exact Or.inl h
      · exact Or.inr (Or.inr h)
end Go.Proofs.YthgcmlhmhojjhaaGreatDoor.RtN
