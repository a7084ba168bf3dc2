/- Walks over layers 9 and 21: the small functions on numbers. -/
import Derived.Test.YtknjnpagbpjlkaaChecked
import Derived.Test.YtknjnpagbpjlkaaAwSpec
import Derived.WalkKit
import Derived.WalkSpells
import Derived.WalkLawsBesides
import Derived.Deep.QuietTactic
import Derived.BigQuiet
import Derived.Deep.Light
namespace Go.Proofs.Ytknjnpagbpjlkaa.AwA
open Go.RowKit

theorem ret_bool {a b : Bool} (h : a = b) : Ending.returned (.bool a) = Ending.returned (.bool b) := by rw [h]
theorem ret_iii {a b c a' b' c' : Int} (h : a = a') (h1 : b = b') (h2 : c = c') : Ending.returned (.tuple #[.int .i64 a, .int .i64 b, .int .i64 c]) = Ending.returned (.tuple #[.int .i64 a', .int .i64 b', .int .i64 c']) := by rw [h, h1, h2]
theorem ret_ii {a b a' b' : Int} (h : a = a') (h1 : b = b') : Ending.returned (.tuple #[.int .i64 a, .int .i64 b]) = Ending.returned (.tuple #[.int .i64 a', .int .i64 b']) := by rw [h, h1]
theorem ret_i64 {a b : Int} (h : a = b) : Ending.returned (.int .i64 a) = Ending.returned (.int .i64 b) := by rw [h]

theorem within12 (x : Int) (w : World) :
    Calls Try.prog 33 #[.int .i64 x, .int .i64 12] w fun e w' => e = .returned (.bool (Aw.in12 x)) ∧ w = w' := by
  go_enter Try.func33, Try.ntmps33
  go_wp2
  all_goals go_ret
  all_goals (refine ⟨ret_bool ?_, rfl⟩; go_light; unfold Aw.in12; rw [Bool.eq_iff_iff]; simp <;> omega)

theorem within18 (x : Int) (w : World) :
    Calls Try.prog 33 #[.int .i64 x, .int .i64 18] w fun e w' => e = .returned (.bool (Aw.in18 x)) ∧ w = w' := by
  go_enter Try.func33, Try.ntmps33
  go_wp2
  all_goals go_ret
  all_goals (refine ⟨ret_bool ?_, rfl⟩; go_light; unfold Aw.in18; rw [Bool.eq_iff_iff]; simp <;> omega)

theorem slot_any (n u : Int) (w : World) :
    Calls Try.prog 34 #[.int .i64 n, .int .i64 u] w fun e w' => e = .returned (.bool (Aw.slotB n u)) ∧ w = w' := by
  go_enter Try.func34, Try.ntmps34
  go_wp2
  all_goals go_ret
  all_goals (refine ⟨ret_bool ?_, rfl⟩; go_light; unfold Aw.slotB; rw [Bool.eq_iff_iff]; simp <;> omega)

theorem times_check (d a : Int) (tb fr : Bool) (w : World) :
    Calls Try.prog 28 #[.agg #[.int .i64 d, .bool tb, .bool fr, .int .i64 a]] w fun e w' => e = .returned (.int .i64 (Aw.timesE d a)) ∧
      w.alloc (.cells #[.int .i64 d, .bool tb, .bool fr, .int .i64 a] 37) = w' := by
  go_enter Try.func28, Try.ntmps28
  go_wp2_with (first | (go_at_call 33; (with_reducible refine (within12 _ _).mono ?_); rintro e w' ⟨rfl, rfl⟩) | (go_at_call 33; (with_reducible refine (within18 _ _).mono ?_); rintro e w' ⟨rfl, rfl⟩))
  all_goals go_ret
  all_goals (refine ⟨ret_i64 ?_, rfl⟩; go_light; rw [Aw.timesE_eq]; simp_all)

theorem window_any (n d u : Int) (w : World) (hn : 0 ≤ n) (hn' : n < 1099511627776) (hd : 0 ≤ d) (hd' : d < 4096) (hu : 1 ≤ u) (hu' : u ≤ 1048576) :
    Calls Try.prog 30 #[.int .i64 n, .int .i64 d, .int .i64 u] w fun e w' => e = .returned (.tuple #[.int .i64 (Aw.firstOf n d u), .int .i64 (n + d * u), .int .i64 0]) ∧ w = w' := by
  have e0 : Aw.slotB n u = true := by simp [Aw.slotB]; omega
  have e1 : Aw.in12 d = true := by simp [Aw.in12]; omega
  have k0 := slot_any n u
  have k1 := within12 d
  rw [e0] at k0
  rw [e1] at k1
  have hm0 : 0 ≤ d * u := Int.mul_nonneg hd (by omega)
  have hm1 : d * u ≤ 4096 * 1048576 := Int.mul_le_mul (by omega) hu' (by omega) (by omega)
  clear e0 e1
  go_enter Try.func30, Try.ntmps30
  go_wp2_with (first | (go_at_call 34; (with_reducible refine (k0 _).mono ?_); rintro e w' ⟨rfl, rfl⟩) | (go_at_call 33; (with_reducible refine (k1 _).mono ?_); rintro e w' ⟨rfl, rfl⟩))
  all_goals go_ret3
  all_goals (refine ⟨ret_iii ?_ rfl rfl, rfl⟩; go_light; unfold Aw.firstOf; omega)

theorem wake_any (n d u g : Int) (w : World) (hn : 0 ≤ n) (hn' : n < 1099511627776) (hd : 0 ≤ d) (hd' : d < 4096) (hu : 1 ≤ u) (hu' : u ≤ 1048576) (hg : 0 ≤ g) (hg' : g ≤ 1048576) :
    Calls Try.prog 29 #[.int .i64 n, .int .i64 d, .int .i64 u, .int .i64 g] w fun e w' => e = .returned (.tuple #[.int .i64 (max n (Aw.firstOf n d u - g)), .int .i64 0]) ∧ w = w' := by
  have hm0 : 0 ≤ d * u := Int.mul_nonneg hd (by omega)
  have hm1 : d * u ≤ 4096 * 1048576 := Int.mul_le_mul (by omega) hu' (by omega) (by omega)
  have hf0 : 0 ≤ Aw.firstOf n d u := by unfold Aw.firstOf; omega
  have hf1 : Aw.firstOf n d u ≤ 1099511627776 + 4096 * 1048576 := by unfold Aw.firstOf; omega
  have k0 := fun w => window_any n d u w hn hn' hd hd' hu hu'
  clear hm0 hm1
  go_enter Try.func29, Try.ntmps29
  go_wp2_with (go_at_call 30; (with_reducible refine (k0 _).mono ?_); rintro e w' ⟨rfl, rfl⟩)
  all_goals go_ret2
  all_goals (refine ⟨ret_ii ?_ rfl, rfl⟩; go_light; omega)

end Go.Proofs.Ytknjnpagbpjlkaa.AwA
