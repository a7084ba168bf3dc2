/- Walks over layer 21: Next, Heard, Skip, Stat. -/
import Derived.Test.YtknjnpagbpjlkaaAwB
import Derived.Test.YtknjnpagbpjlkaaQ
namespace Go.Proofs.Ytknjnpagbpjlkaa.AwC
open Go.RowKit Go.Proofs.Ytknjnpagbpjlkaa.Q Go.Proofs.Ytknjnpagbpjlkaa.Mem Go.Proofs.Ytknjnpagbpjlkaa.AwA Go.Proofs.Ytknjnpagbpjlkaa.AwB

theorem next_nil (w : World) : Calls Try.prog 16 #[.pointer none] w fun e w' => e = .returned (.tuple #[]) ∧ w = w' := by
  go_enter Try.func16, Try.ntmps16
  go_wp2
  all_goals (first | (refine bodyPost_ret (results_none rfl _ _ _) rfl ?_) | go_end0)
  exact ⟨rfl, rfl⟩

theorem turned_tick (m : Aw.M) (g : Nat) (w : World) (hm : At w g m) (s : Int) : Turned w ((w.setCell ⟨g, 9, none⟩ (.int .i64 s)).setCell ⟨g, 4, none⟩ (.int .i64 (m.now + 1))) g ⟨m.unit, m.guard, m.burst, m.pat, m.now + 1, m.state, m.begun, m.wake, m.last, s, m.missed⟩ :=
  ⟨Blk.set_ (Blk.set_ hm 9 _) 4 _, only_set (only_set (only_refl _ _) _ _) _ _⟩
theorem turned_tick0 (m : Aw.M) (g : Nat) (w : World) (hm : At w g m) : Turned w (w.setCell ⟨g, 4, none⟩ (.int .i64 (m.now + 1))) g ⟨m.unit, m.guard, m.burst, m.pat, m.now + 1, m.state, m.begun, m.wake, m.last, m.spent, m.missed⟩ :=
  ⟨Blk.set_ hm 4 _, only_set (only_refl _ _) _ _⟩

theorem small_tick (m : Aw.M) (hi : m.Inv) (hn : m.now < 1099511627775) (s : Int) : Small ⟨m.unit, m.guard, m.burst, m.pat, m.now + 1, m.state, m.begun, m.wake, m.last, s, m.missed⟩ := by
  have := hi.n1; have := hi.e1; have := hi.e2; have := hi.w1; have := hi.w2; have := hi.l2; have := hi.p1; have := hi.p2; have := hi.m1; have := hi.m2
  constructor <;> simp only <;> omega

set_option maxHeartbeats 400000 in
theorem next_any (m : Aw.M) (g : Nat) (w : World) (hm : At w g m) (hi : m.Inv) :
    Calls Try.prog 16 #[.pointer (some ⟨g, 0, none⟩)] w fun e w' => e = .returned (.tuple #[]) ∧ Turned w w' g m.next := by
  have hn1 := hi.n1
  have hn2 := hi.n2
  have ht1 := hi.t1
  have ht2 := hi.t2
  have c4 := Blk.cell hm 4 (v := .int .i64 m.now) rfl
  have c9 := Blk.cell hm 9 (v := .int .i64 m.spent) rfl
  have z4 := Blk.frozen hm 4
  have z9 := Blk.frozen hm 9
  by_cases hn : 1099511627775 ≤ m.now
  · have e : m.next = m := by unfold Aw.M.next; rw [if_pos hn]
    rw [e]
    go_enter Try.func16, Try.ntmps16
    go_wp2
    all_goals (first | (refine bodyPost_ret (results_none rfl _ _ _) rfl ?_) | go_end0)
    exact ⟨rfl, Turned.refl hm⟩
  · have e : m.next = m.tick.settle := by unfold Aw.M.next; rw [if_neg hn]
    rw [e]
    by_cases h2 : m.state = 2
    · have e2 : m.tick = ⟨m.unit, m.guard, m.burst, m.pat, m.now + 1, m.state, m.begun, m.wake, m.last, m.spent, m.missed⟩ := by unfold Aw.M.tick; rw [if_pos h2]
      have eb : (m.state != 2) = false := by simpa using h2
      have k0 := awake_any m g w hm
      rw [eb] at k0
      rw [e2]
      clear e e2 eb h2
      go_enter Try.func16, Try.ntmps16
      go_wp2_with (go_at_call 24; (with_reducible refine (k0).mono ?_); rintro e w' ⟨rfl, rfl⟩)
      have h1 := turned_tick0 m g w hm
      (with_reducible refine (settle_any _ g _ h1.at_ (small_tick m hi hn _)).mono ?_); rintro e w1 ⟨rfl, ht⟩
      go_wp2
      all_goals (first | (refine bodyPost_ret (results_none rfl _ _ _) rfl ?_) | go_end0)
      exact ⟨rfl, h1.trans ht⟩
    · have e2 : m.tick = ⟨m.unit, m.guard, m.burst, m.pat, m.now + 1, m.state, m.begun, m.wake, m.last, m.spent + 1, m.missed⟩ := by unfold Aw.M.tick; rw [if_neg h2]
      have eb : (m.state != 2) = true := by simpa using h2
      have k0 := awake_any m g w hm
      rw [eb] at k0
      rw [e2]
      clear e e2 eb h2
      go_enter Try.func16, Try.ntmps16
      go_wp2_with (go_at_call 24; (with_reducible refine (k0).mono ?_); rintro e w' ⟨rfl, rfl⟩)
      have h1 := turned_tick m g w hm (m.spent + 1)
      (with_reducible refine (settle_any _ g _ h1.at_ (small_tick m hi hn _)).mono ?_); rintro e w1 ⟨rfl, ht⟩
      go_wp2
      all_goals (first | (refine bodyPost_ret (results_none rfl _ _ _) rfl ?_) | go_end0)
      exact ⟨rfl, h1.trans ht⟩

def stat (m : Aw.M) : Value := .agg #[.int .i64 m.now, .int .i64 m.state, .int .i64 m.wake, .int .i64 m.last, .int .i64 m.spent, .int .i64 m.missed]
def stat0 : Value := .agg #[.int .i64 0, .int .i64 0, .int .i64 0, .int .i64 0, .int .i64 0, .int .i64 0]

theorem stat_nil (w : World) : Calls Try.prog 23 #[.pointer none] w fun e w' => e = .returned stat0 ∧ Below w.heap.size w w' := by
  go_enter Try.func23, Try.ntmps23
  go_wp2
  refine bodyPost_ret (v := stat0) (by simp [results, Try.results23, go_sem, stat0]) rfl ⟨rfl, ?_⟩
  exact (Below.refl _ _).alloc (Nat.le_refl _) _

set_option maxHeartbeats 400000 in
theorem stat_any (m : Aw.M) (g : Nat) (w : World) (hm : At w g m) : Calls Try.prog 23 #[.pointer (some ⟨g, 0, none⟩)] w fun e w' => e = .returned (stat m) ∧ Below w.heap.size w w' := by
  have hlt : g < w.heap.size := Blk.lt hm
  have c4 := fun o p => Blk.cell (blk_ext (Blk.alloc hm o) p) 4 (v := .int .i64 m.now) rfl
  have c5 := fun o p => Blk.cell (blk_ext (Blk.alloc hm o) p) 5 (v := .int .i64 m.state) rfl
  have c7 := fun o p => Blk.cell (blk_ext (Blk.alloc hm o) p) 7 (v := .int .i64 m.wake) rfl
  have c8 := fun o p => Blk.cell (blk_ext (Blk.alloc hm o) p) 8 (v := .int .i64 m.last) rfl
  have c9 := fun o p => Blk.cell (blk_ext (Blk.alloc hm o) p) 9 (v := .int .i64 m.spent) rfl
  have c10 := fun o p => Blk.cell (blk_ext (Blk.alloc hm o) p) 10 (v := .int .i64 m.missed) rfl
  go_enter Try.func23, Try.ntmps23
  go_wp2
  refine Go.Proofs.Ytknjnpagbpjlkaa.Q.region_ext_tail 27 (by kernel_rfl) (by kernel_rfl) ?_
  simp only [List.take_succ_cons, List.take_zero, List.drop_succ_cons, List.drop_zero]
  repeat (go_big_quiet_step (fail))
  refine wpQuiet_nil ?_
  rintro w1 ⟨pq, hw1⟩
  have hk : Blk w1 w.heap.size 50 #[.int .i64 0, .int .i64 0, .int .i64 0, .int .i64 0, .int .i64 0, .int .i64 0] := by rw [hw1]; exact blk_ext (Blk.new w _ _) pq
  have hb1 : Below w.heap.size w w1 := by rw [hw1]; exact ((Below.refl _ _).alloc (Nat.le_refl _) _).trans ((below_ext _ pq).mono (by simp))
  clear hw1 c4 c5 c7 c8 c9 c10
  have k0 := Blk.cell hk 0 (v := .int .i64 0) rfl
  have k1 := Blk.cell hk 1 (v := .int .i64 0) rfl
  have k2 := Blk.cell hk 2 (v := .int .i64 0) rfl
  have k3 := Blk.cell hk 3 (v := .int .i64 0) rfl
  have k4 := Blk.cell hk 4 (v := .int .i64 0) rfl
  have k5 := Blk.cell hk 5 (v := .int .i64 0) rfl
  have z0 := Blk.frozen hk 0
  have z1 := Blk.frozen hk 1
  have z2 := Blk.frozen hk 2
  have z3 := Blk.frozen hk 3
  have z4 := Blk.frozen hk 4
  have z5 := Blk.frozen hk 5
  go_wp2
  refine bodyPost_ret (v := stat m) (by simp [results, Try.results23, go_sem, stat, k0, k1, k2, k3, k4, k5]) rfl ⟨rfl, ?_⟩
  exact (((((hb1.setCell (by simp) _).setCell (by simp) _).setCell (by simp) _).setCell (by simp) _).setCell (by simp) _).setCell (by simp) _
end Go.Proofs.Ytknjnpagbpjlkaa.AwC
