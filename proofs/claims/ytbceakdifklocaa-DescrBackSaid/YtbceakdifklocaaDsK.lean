/- The document's ReadSlice, behind its first tests. -/
import Derived.Test.YtbceakdifklocaaDsJ
namespace Go.Proofs.Ytbceakdifklocaa.DsK
open Go.RowKit Go.Proofs.Ytbceakdifklocaa.Q Go.Proofs.Ytbceakdifklocaa.Mem Go.Proofs.Ytbceakdifklocaa.DsA Go.Proofs.Ytbceakdifklocaa.DsB Go.Proofs.Ytbceakdifklocaa.DsC Go.Proofs.Ytbceakdifklocaa.DsD Go.Proofs.Ytbceakdifklocaa.DsE Go.Proofs.Ytbceakdifklocaa.DsApart Go.Proofs.Ytbceakdifklocaa.DsI Go.Proofs.Ytbceakdifklocaa.DsJ

set_option maxRecDepth 100000
theorem idx_at (s : ByteArray) (i : Nat) (h : i < s.size) (V : World) : (Instr.index 9 (.string s) (.int .i64 (i : Int))).run Try.prog V = .ok (.int .u8 (at' s i)) V := by
  rw [run_index_string V _ s .i64 i Try.underlying9, dif_pos ⟨by omega, by omega⟩]
  have h' : i < s.data.size := h
  have : (s.data[i]?.getD 0) = s.data[i] := by rw [Array.getElem?_eq_getElem h']; rfl
  unfold at'
  rw [this]
  rfl
theorem rread_form (d : Dc) (w : World) (h : ¬ d.tag ≠ 119) (h2 : ¬ d.body.size < 3) (h3 : bad d.body = true) :
    Calls Try.prog 15 #[.agg #[.int .i64 d.tag, .string d.body]] w fun e w' => e = .returned (.tuple #[.agg zeroSl.vals, .int .i64 12]) ∧ Below w.heap.size w w' := by
  have t1 : (d.tag != 119) = false := by simpa using h
  have t2 : decide ((d.body.size : Int) < 3) = false := by simp; omega
  have i0 : ∀ V : World, (Instr.index 9 (.string d.body) (.int .i64 0)).run Try.prog V = .ok (.int .u8 (at' d.body 0)) V := fun V => idx_at d.body 0 (by omega) V
  obtain ⟨a, ha⟩ : ∃ a, at' d.body 0 = a := ⟨_, rfl⟩
  have hr := at_range d.body 0
  unfold bad at h3
  rw [ha] at i0 hr h3
  have q1 : IntKind.i64.wrap a = a := by rw [IntKind.wrap_i64]; omega
  simp only [Bool.or_eq_true, decide_eq_true_eq] at h3
  by_cases g1 : 255 < d.body.size
  · have u1 : decide (255 < (d.body.size : Int)) = true := by simp; omega
    clear h h2 h3 g1
    go_enter Try.func15, Try.ntmps15
    go_wp2_with fail
    exact bodyPost_ret (v := .tuple #[.agg zeroSl.vals, .int .i64 12]) (by simp [results, Try.results15, go_sem, zeroSl, Sl.vals]) rfl ⟨rfl, alloc2 _ _ _⟩
  · have u1 : decide (255 < (d.body.size : Int)) = false := by simp; omega
    by_cases g2 : a / 64 % 2 = 1
    · have u2 : (a / 64 % 2 == 1) = true := by simpa using g2
      clear h h2 h3 g1 g2
      go_enter Try.func15, Try.ntmps15
      go_wp2_with fail
      exact bodyPost_ret (v := .tuple #[.agg zeroSl.vals, .int .i64 12]) (by simp [results, Try.results15, go_sem, zeroSl, Sl.vals]) rfl ⟨rfl, alloc2 _ _ _⟩
    · have u2 : (a / 64 % 2 == 1) = false := by simpa using g2
      by_cases g3 : a / 8 % 4 = 3
      · have u3 : (a / 8 % 4 != 3) = false := by simpa using g3
        have u4 : decide (3 < a % 8) = true := by simp; omega
        clear h h2 h3 g1 g2 g3
        go_enter Try.func15, Try.ntmps15
        go_wp2_with fail
        exact bodyPost_ret (v := .tuple #[.agg zeroSl.vals, .int .i64 12]) (by simp [results, Try.results15, go_sem, zeroSl, Sl.vals]) rfl ⟨rfl, alloc2 _ _ _⟩
      · have u3 : (a / 8 % 4 != 3) = true := by simpa using g3
        clear h h2 h3 g1 g2 g3
        go_enter Try.func15, Try.ntmps15
        go_wp2_with fail
        exact bodyPost_ret (v := .tuple #[.agg zeroSl.vals, .int .i64 12]) (by simp [results, Try.results15, go_sem, zeroSl, Sl.vals]) rfl ⟨rfl, alloc2 _ _ _⟩
end Go.Proofs.Ytbceakdifklocaa.DsK
