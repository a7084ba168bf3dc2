/- The document's table: first. -/
import Derived.Test.YtlocgilgdnhnlaaDoorRtO
namespace Go.Proofs.YtlocgilgdnhnlaaDoor.RtP
open Go Go.RowKit Go.Proofs.YtlocgilgdnhnlaaDoor.Q Go.Proofs.YtlocgilgdnhnlaaDoor.Mem Go.Proofs.YtlocgilgdnhnlaaDoor.Rg Go.Proofs.YtlocgilgdnhnlaaDoor.Ap Go.Proofs.YtlocgilgdnhnlaaDoor.ApG Go.Proofs.YtlocgilgdnhnlaaDoor.St Go.Proofs.YtlocgilgdnhnlaaDoor.BiW Go.Proofs.YtlocgilgdnhnlaaDoor.DgB Go.Proofs.YtlocgilgdnhnlaaDoor.DgC Go.Proofs.YtlocgilgdnhnlaaDoor.DgF Go.Proofs.YtlocgilgdnhnlaaDoor.DgG Go.Proofs.YtlocgilgdnhnlaaDoor.TlS Go.Proofs.YtlocgilgdnhnlaaDoor.TbM Go.Proofs.YtlocgilgdnhnlaaDoor.TbN Go.Proofs.YtlocgilgdnhnlaaDoor.TbO Go.Proofs.YtlocgilgdnhnlaaDoor.TbP Go.Proofs.YtlocgilgdnhnlaaDoor.TbQ Go.Proofs.YtlocgilgdnhnlaaDoor.TbR Go.Proofs.YtlocgilgdnhnlaaDoor.TbT Go.Proofs.YtlocgilgdnhnlaaDoor.TbU Go.Proofs.YtlocgilgdnhnlaaDoor.RtM Go.Proofs.YtlocgilgdnhnlaaDoor.RtN Go.Proofs.YtlocgilgdnhnlaaDoor.RtO

set_option maxRecDepth 100000
theorem atI_nat (S : Tb) (q : Nat) : atI S q = (decide (q < 191 * S.R) && S.is q) := by
  unfold atI
  by_cases h : q < 191 * S.R
  · rw [if_pos (by omega), decide_eq_true h, Int.toNat_natCast]; rfl
  · rw [if_neg (by omega), decide_eq_false h]; rfl
end Go.Proofs.YtlocgilgdnhnlaaDoor.RtP
