/- link: pid, machine; what a nil link answers. -/
import Derived.Test.YtbiiehobfnbloaaGreatDoorPkA
import Derived.Test.YtbiiehobfnbloaaGreatDoorPkCut
import Derived.RegionTactic
import Derived.BigRegion
namespace Go.Proofs.YtbiiehobfnbloaaGreatDoor.LnA
open Go Go.RowKit Go.Proofs.YtbiiehobfnbloaaGreatDoor.Q Go.Proofs.YtbiiehobfnbloaaGreatDoor.Mem Go.Proofs.YtbiiehobfnbloaaGreatDoor.Rg Go.Proofs.YtbiiehobfnbloaaGreatDoor.Ap

theorem pid_any (n : Int) (w : World) : Calls Tryz.prog 103 #[.int .i64 n] w fun e w' => e = .returned (.bool (decide (0 < n) && decide (n < 8191))) ∧ w = w' := by
  by_cases h : 0 < n
  · rw [decide_eq_true h, Bool.true_and]
    go_enter Tryz.func103, Tryz.ntmps103
    go_wp2_with fail
    go_ret
    exact ⟨by simp, rfl⟩
  · rw [decide_eq_false h, Bool.false_and]
    go_enter Tryz.func103, Tryz.ntmps103
    go_wp2_with fail
    go_ret
    exact ⟨by simp, rfl⟩
theorem mach_any (a b c d e0 f g : Int) (v : Value) (w : World) : Calls Tryz.prog 102 #[.agg #[.int .i64 a, .int .i64 b, .int .i64 c, .int .i64 d, .int .i64 e0, .int .i64 f, .int .i64 g, v]] w fun e w' => e = .returned (.agg #[.int .i64 a, .int .i64 b, .int .i64 c, .int .i64 d]) ∧ Below w.heap.size w w' := by
  have hB := Blk.newAt (w.alloc (.cells #[.int .i64 a, .int .i64 b, .int .i64 c, .int .i64 d, .int .i64 e0, .int .i64 f, .int .i64 g, v] 63)) 107 #[.int .i64 0, .int .i64 0, .int .i64 0, .int .i64 0] (by simp : w.heap.size + 1 = (w.alloc (.cells #[.int .i64 a, .int .i64 b, .int .i64 c, .int .i64 d, .int .i64 e0, .int .i64 f, .int .i64 g, v] 63)).heap.size)
  have hC := Blk.alloc (Blk.new w 63 #[.int .i64 a, .int .i64 b, .int .i64 c, .int .i64 d, .int .i64 e0, .int .i64 f, .int .i64 g, v]) (.cells #[.int .i64 0, .int .i64 0, .int .i64 0, .int .i64 0] 107)
  have c0 := Blk.cell hC 0 (v := .int .i64 a) rfl
  have c1 := Blk.cell hC 1 (v := .int .i64 b) rfl
  have c2 := Blk.cell hC 2 (v := .int .i64 c) rfl
  have c3 := Blk.cell hC 3 (v := .int .i64 d) rfl
  go_enter Tryz.func102, Tryz.ntmps102
  go_wp2_with fail
  exact bodyPost_ret (v := .agg #[.int .i64 a, .int .i64 b, .int .i64 c, .int .i64 d]) (results_cell_row rfl _ _ (w.heap.size + 1) 107 #[.int .i64 a, .int .i64 b, .int .i64 c, .int .i64 d] (0, 0) _ rfl (Blk.newAt _ _ _ (by simp)) Tryz.underlying107 rfl (by kernel_rfl)) rfl ⟨rfl, ((Below.refl w.heap.size w).alloc (Nat.le_refl _) _).alloc (by simp) _⟩
theorem find_nil (n : Int) (w : World) : Calls Tryz.prog 80 #[.pointer none, .int .i64 n] w fun e w' => e = .returned (.int .i64 2) ∧ w = w' := by
  go_enter Tryz.func80, Tryz.ntmps80
  go_wp2_with fail
  go_ret
  exact ⟨rfl, rfl⟩
theorem offer_nil (n : Int) (s : ByteArray) (w : World) : Calls Tryz.prog 29 #[.pointer none, .int .i64 n, .string s] w fun e w' => e = .returned (.int .i64 2) ∧ w = w' := by
  go_enter Tryz.func29, Tryz.ntmps29
  go_wp2_with fail
  (with_reducible refine (find_nil _ _).mono ?_); rintro e w1 ⟨rfl, rfl⟩
  go_wp2_with fail
  go_ret
  exact ⟨rfl, rfl⟩
theorem close_nil (n : Int) (w : World) : Calls Tryz.prog 32 #[.pointer none, .int .i64 n] w fun e w' => e = .returned (.int .i64 2) ∧ Below w.heap.size w w' := by
  go_enter Tryz.func32, Tryz.ntmps32
  go_wp2_with fail
  (with_reducible refine (find_nil _ _).mono ?_); rintro e w1 ⟨rfl, rfl⟩
  go_wp2_with fail
  go_ret
  refine ⟨rfl, ?_⟩
  first | exact Below.refl _ _ | exact (Below.refl _ _).alloc (Nat.le_refl _) _
theorem told_nil (n : Int) (w : World) : Calls Tryz.prog 36 #[.pointer none, .int .i64 n] w fun e w' => e = .returned (.slice none 0 0) ∧ w = w' := by
  go_enter Tryz.func36, Tryz.ntmps36
  go_wp2_with fail
  (with_reducible refine (find_nil _ _).mono ?_); rintro e w1 ⟨rfl, rfl⟩
  go_wp2_with fail
  go_ret
  exact ⟨rfl, rfl⟩
theorem tables_nil (w : World) : Calls Tryz.prog 50 #[.pointer none] w fun e w' => e = .returned (.tuple #[.string ByteArray.empty, .slice none 0 0, .int .i64 2]) ∧ w = w' := by
  go_enter Tryz.func50, Tryz.ntmps50
  go_wp2_with fail
  go_ret3
  exact ⟨rfl, rfl⟩
theorem bursts_nil (w : World) : Calls Tryz.prog 51 #[.pointer none] w fun e w' => e = .returned (.tuple #[.slice none 0 0, .int .i64 2]) ∧ w = w' := by
  go_enter Tryz.func51, Tryz.ntmps51
  go_wp2_with fail
  go_ret2
  exact ⟨rfl, rfl⟩
theorem air_nil (w : World) : Calls Tryz.prog 52 #[.pointer none] w fun e w' => e = .returned (.tuple #[.string ByteArray.empty, .int .i64 2]) ∧ w = w' := by
  go_enter Tryz.func52, Tryz.ntmps52
  go_wp2_with fail
  (with_reducible refine (bursts_nil _).mono ?_); rintro e w1 ⟨rfl, rfl⟩
  go_wp2_with fail
  go_ret2
  exact ⟨rfl, rfl⟩
theorem hear_nil (n : Int) (b : Bool) (v : Value) (w : World) : Calls Tryz.prog 53 #[.pointer none, .int .i64 n, .bool b, v] w fun e w' => e = .returned (.tuple #[.slice none 0 0, .agg #[.int .i64 0, .int .i64 0, .int .i64 0, .int .i64 0, .int .i64 0, .int .i64 0, .int .i64 0, .int .i64 0, .int .i64 0, .int .i64 0, .int .i64 0, .int .i64 0], .int .i64 2]) ∧ Below w.heap.size w w' := by
  go_enter Tryz.func53, Tryz.ntmps53
  go_wp2_with fail
  (with_reducible refine (find_nil _ _).mono ?_); rintro e w1 ⟨rfl, rfl⟩
  go_wp2_with fail
  refine bodyPost_ret (v := .tuple #[.slice none 0 0, .agg #[.int .i64 0, .int .i64 0, .int .i64 0, .int .i64 0, .int .i64 0, .int .i64 0, .int .i64 0, .int .i64 0, .int .i64 0, .int .i64 0, .int .i64 0, .int .i64 0], .int .i64 2]) (by simp [results, Tryz.results53, go_sem]) rfl ⟨rfl, ?_⟩
  exact (Below.refl _ _).alloc (Nat.le_refl _) _
end Go.Proofs.YtbiiehobfnbloaaGreatDoor.LnA
