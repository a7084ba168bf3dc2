/- The document's Check of a section. -/
import Derived.Test.YtpigkccfepmmgaaSeA
namespace Go.Proofs.Ytpigkccfepmmgaa.SeB
open Go Go.RowKit Go.Proofs.Ytpigkccfepmmgaa.Q Go.Proofs.Ytpigkccfepmmgaa.Mem Go.Proofs.Ytpigkccfepmmgaa.Rg Go.Proofs.Ytpigkccfepmmgaa.St Go.Proofs.Ytpigkccfepmmgaa.SeA

set_option maxRecDepth 100000
set_option maxHeartbeats 1600000 in
theorem rcheck_any (s : Sc) (w : World) : Calls Try.prog 11 #[.agg s.vals] w fun e w' => e = .returned (.int .i64 s.chk) ∧ Below w.heap.size w w' := by
  have h1 := @chk_no s
  have h2 := @chk_full s
  have h3 := @chk_ok s
  unfold Sc.ok at h1 h2 h3
  obtain ⟨t, p, e, v, n, m, l, b⟩ := s
  dsimp only at h1 h2 h3
  have HB := Lib.hid (show Below w.heap.size w (w.alloc (.cells #[.int .i64 t, .bool p, .int .i64 e, .int .i64 v, .bool n, .int .i64 m, .int .i64 l, .string b] 28)) from (Below.refl _ _).alloc (Nat.le_refl _) _)
  obtain ⟨c, hc⟩ : ∃ c, Sc.chk ⟨t, p, e, v, n, m, l, b⟩ = c := ⟨_, rfl⟩
  rw [hc] at h1 h2 h3 ⊢
  have H1 := Lib.hid h1
  have H2 := Lib.hid h2
  have H3 := Lib.hid h3
  clear hc h1 h2 h3
  unfold Sc.vals
  go_enter Try.func11, Try.ntmps11
  go_wp2_with fail
  all_goals
    go_ret
    refine ⟨?_, HB.out⟩
    first
      | (rw [H1.out (by omega)]; rfl)
      | (rw [H2.out (by omega) (by omega)]; rfl)
      | (rw [H3.out (by omega) (by omega)]; rfl)
end Go.Proofs.Ytpigkccfepmmgaa.SeB
