/- The document's table: Parity, Pad, Lost. -/
import Derived.Test.YthgcmlhmhojjhaaGreatDoorRtN
namespace Go.Proofs.YthgcmlhmhojjhaaGreatDoor.RtO
open Go Go.RowKit Go.Proofs.YthgcmlhmhojjhaaGreatDoor.Q Go.Proofs.YthgcmlhmhojjhaaGreatDoor.Mem Go.Proofs.YthgcmlhmhojjhaaGreatDoor.Rg Go.Proofs.YthgcmlhmhojjhaaGreatDoor.Ap Go.Proofs.YthgcmlhmhojjhaaGreatDoor.ApG Go.Proofs.YthgcmlhmhojjhaaGreatDoor.St Go.Proofs.YthgcmlhmhojjhaaGreatDoor.BiW Go.Proofs.YthgcmlhmhojjhaaGreatDoor.TlS Go.Proofs.YthgcmlhmhojjhaaGreatDoor.TbM Go.Proofs.YthgcmlhmhojjhaaGreatDoor.TbN Go.Proofs.YthgcmlhmhojjhaaGreatDoor.TbO Go.Proofs.YthgcmlhmhojjhaaGreatDoor.TbP Go.Proofs.YthgcmlhmhojjhaaGreatDoor.TbQ Go.Proofs.YthgcmlhmhojjhaaGreatDoor.TbR Go.Proofs.YthgcmlhmhojjhaaGreatDoor.RtM Go.Proofs.YthgcmlhmhojjhaaGreatDoor.RtN

set_option maxRecDepth 100000
/-- places from a to i are known -/
def padJ (S : Tb) (a i : Nat) : Tb := { S with is := fun p => if a ≤ p ∧ p < i then true else S.is p }
theorem padJ_zero (S : Tb) (a : Nat) : padJ S a a = S := by
  unfold padJ
  have h : ∀ p, ¬ (a ≤ p ∧ p < a) := fun p => by omega
  simp only [h, if_false]
theorem padJ_mark (S : Tb) (a i : Nat) (h : a ≤ i) : (padJ S a i).mark i = padJ S a (i + 1) := by
  unfold padJ Tb.mark
  dsimp only
  congr 1
  funext p
  by_cases h1 : p = i
  · subst h1; rw [if_pos rfl, if_pos (by omega)]
  · rw [if_neg h1]
    by_cases h2 : a ≤ p ∧ p < i
    · rw [if_pos h2, if_pos (by omega)]
    · rw [if_neg h2, if_neg (by omega)]
end Go.Proofs.YthgcmlhmhojjhaaGreatDoor.RtO
