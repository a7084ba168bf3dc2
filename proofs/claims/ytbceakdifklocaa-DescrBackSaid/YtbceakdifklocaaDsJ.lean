/- like; both ReadSlices where they refuse at once. -/
import Derived.Test.YtbceakdifklocaaDsI
namespace Go.Proofs.Ytbceakdifklocaa.DsJ
open Go.RowKit Go.Proofs.Ytbceakdifklocaa.Q Go.Proofs.Ytbceakdifklocaa.Mem Go.Proofs.Ytbceakdifklocaa.DsA Go.Proofs.Ytbceakdifklocaa.DsB Go.Proofs.Ytbceakdifklocaa.DsC Go.Proofs.Ytbceakdifklocaa.DsD Go.Proofs.Ytbceakdifklocaa.DsE Go.Proofs.Ytbceakdifklocaa.DsApart Go.Proofs.Ytbceakdifklocaa.DsI

set_option maxRecDepth 100000
theorem like_same (d : Dc) (e : Int) (w : World) :
    Calls Try.prog 16 #[.agg #[.int .i64 d.tag, .string d.body], .int .i64 e, .agg #[.int .i64 d.tag, .string d.body], .int .i64 e] w fun x w' => x = .returned (.bool true) ∧ Below w.heap.size w w' := by
  have t0 : (e == e) = true := by simp
  have t1 : (d.tag == d.tag) = true := by simp
  go_enter Try.func16, Try.ntmps16
  go_wp2_with fail
  go_ret
  exact ⟨rfl, alloc2 _ _ _⟩
theorem rread_kind (d : Dc) (w : World) (h : d.tag ≠ 119) :
    Calls Try.prog 15 #[.agg #[.int .i64 d.tag, .string d.body]] w fun e w' => e = .returned (.tuple #[.agg zeroSl.vals, .int .i64 14]) ∧ Below w.heap.size w w' := by
  have t1 : (d.tag != 119) = true := by simpa using h
  clear h
  go_enter Try.func15, Try.ntmps15
  go_wp2_with fail
  exact bodyPost_ret (v := .tuple #[.agg zeroSl.vals, .int .i64 14]) (by simp [results, Try.results15, go_sem, zeroSl, Sl.vals]) rfl ⟨rfl, alloc2 _ _ _⟩
theorem rread_short (d : Dc) (w : World) (h : ¬ d.tag ≠ 119) (h2 : d.body.size < 3) :
    Calls Try.prog 15 #[.agg #[.int .i64 d.tag, .string d.body]] w fun e w' => e = .returned (.tuple #[.agg zeroSl.vals, .int .i64 10]) ∧ Below w.heap.size w w' := by
  have t1 : (d.tag != 119) = false := by simpa using h
  have t2 : decide ((d.body.size : Int) < 3) = true := by simp; omega
  clear h h2
  go_enter Try.func15, Try.ntmps15
  go_wp2_with fail
  exact bodyPost_ret (v := .tuple #[.agg zeroSl.vals, .int .i64 10]) (by simp [results, Try.results15, go_sem, zeroSl, Sl.vals]) rfl ⟨rfl, alloc2 _ _ _⟩
theorem read_kind (d : Dc) (w : World) (h : d.tag ≠ 119) :
    Calls Try.prog 14 #[.agg #[.int .i64 d.tag, .string d.body]] w fun e w' => e = .returned (.tuple #[.agg zeroSl.vals, .int .i64 14]) ∧ Below w.heap.size w w' := by
  have t1 : (d.tag != 119) = true := by simpa using h
  clear h
  go_enter Try.func14, Try.ntmps14
  go_wp2_with fail
  exact bodyPost_ret (v := .tuple #[.agg zeroSl.vals, .int .i64 14]) (by simp [results, Try.results14, go_sem, zeroSl, Sl.vals]) rfl ⟨rfl, alloc2 _ _ _⟩
theorem read_short (d : Dc) (w : World) (h : ¬ d.tag ≠ 119) (h2 : d.body.size < 3) :
    Calls Try.prog 14 #[.agg #[.int .i64 d.tag, .string d.body]] w fun e w' => e = .returned (.tuple #[.agg zeroSl.vals, .int .i64 10]) ∧ Below w.heap.size w w' := by
  have t1 : (d.tag != 119) = false := by simpa using h
  have t2 : decide ((d.body.size : Int) < 3) = true := by simp; omega
  clear h h2
  go_enter Try.func14, Try.ntmps14
  go_wp2_with fail
  exact bodyPost_ret (v := .tuple #[.agg zeroSl.vals, .int .i64 10]) (by simp [results, Try.results14, go_sem, zeroSl, Sl.vals]) rfl ⟨rfl, alloc2 _ _ _⟩
end Go.Proofs.Ytbceakdifklocaa.DsJ
