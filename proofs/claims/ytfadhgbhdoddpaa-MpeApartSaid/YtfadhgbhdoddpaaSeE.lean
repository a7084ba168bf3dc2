/- What Encode says of a section. -/
import Derived.Test.YtfadhgbhdoddpaaSeD
namespace Go.Proofs.Ytfadhgbhdoddpaa.SeE
open Go Go.RowKit Go.Proofs.Ytfadhgbhdoddpaa.Q Go.Proofs.Ytfadhgbhdoddpaa.Mem Go.Proofs.Ytfadhgbhdoddpaa.Rg Go.Proofs.Ytfadhgbhdoddpaa.Ap Go.Proofs.Ytfadhgbhdoddpaa.St Go.Proofs.Ytfadhgbhdoddpaa.BiP Go.Proofs.Ytfadhgbhdoddpaa.CrC Go.Proofs.Ytfadhgbhdoddpaa.CrD Go.Proofs.Ytfadhgbhdoddpaa.SeA Go.Proofs.Ytfadhgbhdoddpaa.SeC Go.Proofs.Ytfadhgbhdoddpaa.SeD

/-- what Encode says -/
def encS (s : Sc) : ByteArray := if s.chk = 0 then bytesS s else nob
theorem chk_zero {s : Sc} (h : s.chk = 0) : s.ok ∧ ¬ 4084 < s.body.size := by
  unfold Sc.chk at h
  split at h
  · rename_i hk
    split at h
    · omega
    · rename_i hb; exact ⟨hk, hb⟩
  · omega
theorem enc_any (s : Sc) (w : World) : Calls Try.prog 24 #[.agg s.vals] w fun e w' => e = .returned (.tuple #[.string (encS s), .int .i64 s.chk]) ∧ Below w.heap.size w w' := by
  unfold encS
  by_cases h : s.chk = 0
  · obtain ⟨h1, h2⟩ := chk_zero h
    rw [if_pos h, h]
    exact enc_ok s w h1 h2
  · rw [if_neg h]
    exact enc_bad s w h
end Go.Proofs.Ytfadhgbhdoddpaa.SeE
