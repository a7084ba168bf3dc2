/- The document's table: Parity, Pad, Lost. -/
import Derived.Test.YtofedloikbmidaaGreatDoorRtN
namespace Go.Proofs.YtofedloikbmidaaGreatDoor.RtO
open Go Go.RowKit Go.Proofs.YtofedloikbmidaaGreatDoor.Q Go.Proofs.YtofedloikbmidaaGreatDoor.Mem Go.Proofs.YtofedloikbmidaaGreatDoor.Rg Go.Proofs.YtofedloikbmidaaGreatDoor.Ap Go.Proofs.YtofedloikbmidaaGreatDoor.ApG Go.Proofs.YtofedloikbmidaaGreatDoor.St Go.Proofs.YtofedloikbmidaaGreatDoor.BiW Go.Proofs.YtofedloikbmidaaGreatDoor.TlS Go.Proofs.YtofedloikbmidaaGreatDoor.TbM Go.Proofs.YtofedloikbmidaaGreatDoor.TbN Go.Proofs.YtofedloikbmidaaGreatDoor.TbO Go.Proofs.YtofedloikbmidaaGreatDoor.TbP Go.Proofs.YtofedloikbmidaaGreatDoor.TbQ Go.Proofs.YtofedloikbmidaaGreatDoor.TbR Go.Proofs.YtofedloikbmidaaGreatDoor.RtM Go.Proofs.YtofedloikbmidaaGreatDoor.RtN

set_option maxRecDepth 100000
/-- places from a to i are known -/
def padJ (S : Tb) (a i : Nat) : Tb := { S with is := fun p => if a ≤ p ∧ p < i then true else S.is p }
theorem padJ_zero (S : Tb) (a : Nat) : padJ S a a = S := by
  unfold padJ
  have h : ∀ p, ¬ (a ≤ p ∧ p < a) := fun p => by omega
  simp only [h, if_false]
theorem padJ_mark (S : Tb) (a i : Nat) (h : a ≤ i) : (padJ S a i).mark i = padJ S a (i + 1) := by
  unfold padJ Tb.mark
  dsimp only
  congr 1
  funext p
  by_cases h1 : p = i
  · subst h1; rw [if_pos rfl, if_pos (by omega)]
  · rw [if_neg h1]
    by_cases h2 : a ≤ p ∧ p < i
    · rw [if_pos h2, if_pos (by omega)]
    · rw [if_neg h2, if_neg (by omega)]
end Go.Proofs.YtofedloikbmidaaGreatDoor.RtO
