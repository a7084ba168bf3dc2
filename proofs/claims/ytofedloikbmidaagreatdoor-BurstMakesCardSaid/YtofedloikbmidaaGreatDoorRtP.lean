/- The document's table: first. -/
import Derived.Test.YtofedloikbmidaaGreatDoorRtO
namespace Go.Proofs.YtofedloikbmidaaGreatDoor.RtP
open Go Go.RowKit Go.Proofs.YtofedloikbmidaaGreatDoor.Q Go.Proofs.YtofedloikbmidaaGreatDoor.Mem Go.Proofs.YtofedloikbmidaaGreatDoor.Rg Go.Proofs.YtofedloikbmidaaGreatDoor.Ap Go.Proofs.YtofedloikbmidaaGreatDoor.ApG Go.Proofs.YtofedloikbmidaaGreatDoor.St Go.Proofs.YtofedloikbmidaaGreatDoor.BiW Go.Proofs.YtofedloikbmidaaGreatDoor.DgB Go.Proofs.YtofedloikbmidaaGreatDoor.DgC Go.Proofs.YtofedloikbmidaaGreatDoor.DgF Go.Proofs.YtofedloikbmidaaGreatDoor.DgG Go.Proofs.YtofedloikbmidaaGreatDoor.TlS Go.Proofs.YtofedloikbmidaaGreatDoor.TbM Go.Proofs.YtofedloikbmidaaGreatDoor.TbN Go.Proofs.YtofedloikbmidaaGreatDoor.TbO Go.Proofs.YtofedloikbmidaaGreatDoor.TbP Go.Proofs.YtofedloikbmidaaGreatDoor.TbQ Go.Proofs.YtofedloikbmidaaGreatDoor.TbR Go.Proofs.YtofedloikbmidaaGreatDoor.TbT Go.Proofs.YtofedloikbmidaaGreatDoor.TbU Go.Proofs.YtofedloikbmidaaGreatDoor.RtM Go.Proofs.YtofedloikbmidaaGreatDoor.RtN Go.Proofs.YtofedloikbmidaaGreatDoor.RtO

set_option maxRecDepth 100000
theorem atI_nat (S : Tb) (q : Nat) : atI S q = (decide (q < 191 * S.R) && S.is q) := by
  unfold atI
  by_cases h : q < 191 * S.R
  · rw [if_pos (by omega), decide_eq_true h, Int.toNat_natCast]; rfl
  · rw [if_neg (by omega), decide_eq_false h]; rfl
end Go.Proofs.YtofedloikbmidaaGreatDoor.RtP
