/- Walks over the document's machine of layer 21: Heard; and May. -/
import Derived.Test.YtknjnpagbpjlkaaAwR
namespace Go.Proofs.Ytknjnpagbpjlkaa.AwT
open Go.RowKit Go.Proofs.Ytknjnpagbpjlkaa.Q Go.Proofs.Ytknjnpagbpjlkaa.Mem Go.Proofs.Ytknjnpagbpjlkaa.AwA Go.Proofs.Ytknjnpagbpjlkaa.AwB Go.Proofs.Ytknjnpagbpjlkaa.AwC Go.Proofs.Ytknjnpagbpjlkaa.AwD Go.Proofs.Ytknjnpagbpjlkaa.AwE Go.Proofs.Ytknjnpagbpjlkaa.AwR

theorem one_any (n : Int) (w : World) : Calls Try.prog 32 #[.int .i64 n] w fun e w' => e = .returned (.bool (decide (1 ≤ n ∧ n ≤ 1048576))) ∧ w = w' := by
  go_enter Try.func32, Try.ntmps32
  go_wp2
  all_goals go_ret
  all_goals (refine ⟨ret_bool ?_, rfl⟩; go_light; rw [Bool.eq_iff_iff]; simp <;> omega)

def oneB (n : Int) : Bool := decide (1 ≤ n ∧ n ≤ 1048576)
theorem one_b (n : Int) (w : World) : Calls Try.prog 32 #[.int .i64 n] w fun e w' => e = .returned (.bool (oneB n)) ∧ w = w' := one_any n w

theorem may_any (u g b p : Int) (w : World) : Calls Try.prog 25 #[.int .i64 u, .int .i64 g, .int .i64 b, .int .i64 p] w fun e w' => e = .returned (.bool (Aw.cfg u g b p)) ∧ w = w' := by
  by_cases h1 : oneB u = true
  · by_cases h2 : oneB b = true
    · by_cases h3 : oneB p = true
      · have k1 := one_b u
        have k2 := one_b b
        have k3 := one_b p
        rw [h1] at k1
        rw [h2] at k2
        rw [h3] at k3
        have g1 := of_decide_eq_true h1
        have g2 := of_decide_eq_true h2
        have g3 := of_decide_eq_true h3
        clear h1 h2 h3
        go_enter Try.func25, Try.ntmps25
        go_wp2_with fail
        (with_reducible refine (k1 _).mono ?_); rintro e w1 ⟨rfl, rfl⟩
        go_wp2_with fail
        (with_reducible refine (k2 _).mono ?_); rintro e w1 ⟨rfl, rfl⟩
        go_wp2_with fail
        (with_reducible refine (k3 _).mono ?_); rintro e w1 ⟨rfl, rfl⟩
        clear k1 k2 k3
        go_wp2
        all_goals go_ret
        all_goals (refine ⟨ret_bool ?_, rfl⟩; go_light; unfold Aw.cfg; rw [Bool.eq_iff_iff]; simp <;> omega)
      · have e3 : oneB p = false := by simpa using h3
        have k1 := one_b u
        have k2 := one_b b
        have k3 := one_b p
        rw [h1] at k1
        rw [h2] at k2
        rw [e3] at k3
        have hc : Aw.cfg u g b p = false := by
          have := of_decide_eq_false e3
          unfold Aw.cfg; rw [decide_eq_false]; omega
        rw [hc]
        clear h1 h2 h3 e3 hc
        go_enter Try.func25, Try.ntmps25
        go_wp2_with fail
        (with_reducible refine (k1 _).mono ?_); rintro e w1 ⟨rfl, rfl⟩
        go_wp2_with fail
        (with_reducible refine (k2 _).mono ?_); rintro e w1 ⟨rfl, rfl⟩
        go_wp2_with fail
        (with_reducible refine (k3 _).mono ?_); rintro e w1 ⟨rfl, rfl⟩
        go_wp2
        go_ret
        exact ⟨rfl, rfl⟩
    · have e3 : oneB b = false := by simpa using h2
      have k1 := one_b u
      have k2 := one_b b
      rw [h1] at k1
      rw [e3] at k2
      have hc : Aw.cfg u g b p = false := by
        have := of_decide_eq_false e3
        unfold Aw.cfg; rw [decide_eq_false]; omega
      rw [hc]
      clear h1 h2 e3 hc
      go_enter Try.func25, Try.ntmps25
      go_wp2_with fail
      (with_reducible refine (k1 _).mono ?_); rintro e w1 ⟨rfl, rfl⟩
      go_wp2_with fail
      (with_reducible refine (k2 _).mono ?_); rintro e w1 ⟨rfl, rfl⟩
      go_wp2
      go_ret
      exact ⟨rfl, rfl⟩
  · have e3 : oneB u = false := by simpa using h1
    have k1 := one_b u
    rw [e3] at k1
    have hc : Aw.cfg u g b p = false := by
      have := of_decide_eq_false e3
      unfold Aw.cfg; rw [decide_eq_false]; omega
    rw [hc]
    clear h1 e3 hc
    go_enter Try.func25, Try.ntmps25
    go_wp2_with fail
    (with_reducible refine (k1 _).mono ?_); rintro e w1 ⟨rfl, rfl⟩
    go_wp2
    go_ret
    exact ⟨rfl, rfl⟩

/-- the machine's cells, whatever it says that it knows -/
def rcellsK (m : Aw.M) (k : Bool) : Array Value := #[.int .i64 m.unit, .int .i64 m.guard, .int .i64 m.burst, .int .i64 m.pat, .int .i64 m.now, .int .i64 m.state, .int .i64 m.begun, .bool k, .int .i64 m.wake, .int .i64 m.last, .int .i64 m.spent, .int .i64 m.missed]
theorem RAt.ofK {w : World} {g : Nat} {m : Aw.M} {k : Bool} (h : Blk w g 43 (rcellsK m k)) (hk : kn m = k) : RAt w g m := by
  unfold RAt; rw [show rcells m = rcellsK m k by rw [← hk]; rfl]; exact h
structure RHears (w W : World) (g : Nat) (m : Aw.M) (k : Bool) (d a : Int) (tb fr : Bool) : Prop where
  at_ : Blk W g 43 (rcellsK m k)
  only : w.grownBy W (some g)
  b : Blk W w.heap.size 37 #[.int .i64 d, .bool tb, .bool fr, .int .i64 a]
theorem RHears.ext_ {w W : World} {g : Nat} {m : Aw.M} {k : Bool} {d a : Int} {tb fr : Bool} (h : RHears w W g m k d a tb fr) (p : Ext) : RHears w (ext W p) g m k d a tb fr :=
  ⟨blk_ext h.at_ p, only_trans h.only (only_of_below (below_ext W p) _), blk_ext h.b p⟩
theorem RHears.wake {w W : World} {g : Nat} {m : Aw.M} {k : Bool} {d a : Int} {tb fr : Bool} (h : RHears w W g m k d a tb fr) (hg : g < w.heap.size) (x : Int) : RHears w (W.setCell ⟨g, 8, none⟩ (.int .i64 x)) g (wakeAt m x) k d a tb fr :=
  ⟨Blk.set_ h.at_ 8 _, only_set h.only _ _, Blk.far h.b (by simp; omega) _⟩
theorem RHears.last {w W : World} {g : Nat} {m : Aw.M} {k : Bool} {d a : Int} {tb fr : Bool} (h : RHears w W g m k d a tb fr) (hg : g < w.heap.size) (x : Int) : RHears w (W.setCell ⟨g, 9, none⟩ (.int .i64 x)) g (lastAt m x) k d a tb fr :=
  ⟨Blk.set_ h.at_ 9 _, only_set h.only _ _, Blk.far h.b (by simp; omega) _⟩

theorem rheard_sleep (m : Aw.M) (g : Nat) (d a : Int) (tb fr : Bool) (w : World) (hm : RAt w g m) (h2 : m.state = 2) :
    Calls Try.prog 19 #[.pointer (some ⟨g, 0, none⟩), .agg #[.int .i64 d, .bool tb, .bool fr, .int .i64 a]] w fun e w' => e = .returned (.int .i64 22) ∧ RTurned w w' g m := by
  have hlt : g < w.heap.size := Blk.lt hm
  have c5 := Blk.cell hm 5 (v := .int .i64 m.state) rfl
  rw [h2] at c5
  clear h2
  go_enter Try.func19, Try.ntmps19
  go_wp2
  go_ret
  exact ⟨rfl, (RTurned.refl hm).alloc _⟩

theorem rheard_bad (m : Aw.M) (g : Nat) (d a : Int) (tb fr : Bool) (w : World) (hm : RAt w g m) (h2 : ¬ m.state = 2) (hE : ¬ (0 ≤ d ∧ d < 4096 ∧ 0 ≤ a ∧ a < 262144)) :
    Calls Try.prog 19 #[.pointer (some ⟨g, 0, none⟩), .agg #[.int .i64 d, .bool tb, .bool fr, .int .i64 a]] w fun e w' => e = .returned (.int .i64 15) ∧ RTurned w w' g m := by
  have hlt : g < w.heap.size := Blk.lt hm
  have c5 := Blk.cell hm 5 (v := .int .i64 m.state) rfl
  have e2 : (m.state == 2) = false := by simpa using h2
  clear h2
  by_cases h1 : d < 0
  · go_enter Try.func19, Try.ntmps19
    go_wp2
    go_ret
    exact ⟨rfl, (RTurned.refl hm).alloc _⟩
  by_cases h3 : 4095 < d
  · go_enter Try.func19, Try.ntmps19
    go_wp2
    go_ret
    exact ⟨rfl, (RTurned.refl hm).alloc _⟩
  by_cases h4 : a < 0
  · go_enter Try.func19, Try.ntmps19
    go_wp2
    go_ret
    exact ⟨rfl, (RTurned.refl hm).alloc _⟩
  · have h5 : 262143 < a := by omega
    go_enter Try.func19, Try.ntmps19
    go_wp2
    go_ret
    exact ⟨rfl, (RTurned.refl hm).alloc _⟩
end Go.Proofs.Ytknjnpagbpjlkaa.AwT
