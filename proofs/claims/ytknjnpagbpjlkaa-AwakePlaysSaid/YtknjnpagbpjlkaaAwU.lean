/- Walks over the document's machine of layer 21: Heard, where it is heard. -/
import Derived.Test.YtknjnpagbpjlkaaAwT
namespace Go.Proofs.Ytknjnpagbpjlkaa.AwU
open Go.RowKit Go.Proofs.Ytknjnpagbpjlkaa.Q Go.Proofs.Ytknjnpagbpjlkaa.Mem Go.Proofs.Ytknjnpagbpjlkaa.AwA Go.Proofs.Ytknjnpagbpjlkaa.AwB Go.Proofs.Ytknjnpagbpjlkaa.AwC Go.Proofs.Ytknjnpagbpjlkaa.AwD Go.Proofs.Ytknjnpagbpjlkaa.AwE Go.Proofs.Ytknjnpagbpjlkaa.AwR Go.Proofs.Ytknjnpagbpjlkaa.AwT

theorem rentered (m : Aw.M) (g : Nat) (w : World) (hm : RAt w g m) (k : Bool) :
    Blk (((((w.setCell ⟨g, 5, none⟩ (.int .i64 4)).setCell ⟨g, 6, none⟩ (.int .i64 m.now)).setCell ⟨g, 7, none⟩ (.bool k)).setCell ⟨g, 8, none⟩ (.int .i64 0)).setCell ⟨g, 9, none⟩ (.int .i64 0)) g 43 (rcellsK ⟨m.unit, m.guard, m.burst, m.pat, m.now, 4, m.now, 0, 0, m.spent, m.missed⟩ k) ∧
    w.grownBy (((((w.setCell ⟨g, 5, none⟩ (.int .i64 4)).setCell ⟨g, 6, none⟩ (.int .i64 m.now)).setCell ⟨g, 7, none⟩ (.bool k)).setCell ⟨g, 8, none⟩ (.int .i64 0)).setCell ⟨g, 9, none⟩ (.int .i64 0)) (some g) :=
  ⟨((((Blk.set_ hm 5 (.int .i64 4)).set_ 6 (.int .i64 m.now)).set_ 7 (.bool k)).set_ 8 (.int .i64 0)).set_ 9 (.int .i64 0), only_set (only_set (only_set (only_set (only_set (only_refl _ _) _ _) _ _) _ _) _ _) _ _⟩
theorem rcleared (m : Aw.M) (g : Nat) (w : World) (hm : RAt w g m) (k : Bool) :
    Blk (((w.setCell ⟨g, 7, none⟩ (.bool k)).setCell ⟨g, 8, none⟩ (.int .i64 0)).setCell ⟨g, 9, none⟩ (.int .i64 0)) g 43 (rcellsK ⟨m.unit, m.guard, m.burst, m.pat, m.now, m.state, m.begun, 0, 0, m.spent, m.missed⟩ k) ∧
    w.grownBy (((w.setCell ⟨g, 7, none⟩ (.bool k)).setCell ⟨g, 8, none⟩ (.int .i64 0)).setCell ⟨g, 9, none⟩ (.int .i64 0)) (some g) :=
  ⟨((Blk.set_ hm 7 (.bool k)).set_ 8 (.int .i64 0)).set_ 9 (.int .i64 0), only_set (only_set (only_set (only_refl _ _) _ _) _ _) _ _⟩
theorem rhears0 {w W : World} {g : Nat} {m : Aw.M} {k : Bool} {d a : Int} {tb fr : Bool} (h : Blk W g 43 (rcellsK m k) ∧ w.grownBy W (some g)) (hs : w.heap.size = W.heap.size) :
    RHears w (W.alloc (.cells #[.int .i64 d, .bool tb, .bool fr, .int .i64 a] 37)) g m k d a tb fr :=
  ⟨Blk.alloc h.1 _, only_alloc h.2 _, Blk.newAt _ _ _ hs⟩

theorem RTurned.ofHears {w W : World} {g : Nat} {m : Aw.M} {k : Bool} {d a : Int} {tb fr : Bool} (h : RHears w W g m k d a tb fr) (hk : kn m = k) : RTurned w W g m := ⟨RAt.ofK h.at_ hk, h.only⟩
theorem RTurned.eq_ {w W : World} {g : Nat} {m m' : Aw.M} (h : RTurned w W g m) (e : m = m') : RTurned w W g m' := e ▸ h
theorem kn_last {m : Aw.M} (h : 0 < m.last) : kn m = true := by
  have e : ¬ (m.wake = 0 ∧ m.last = 0) := by omega
  unfold kn; rw [decide_eq_false e]; rfl

theorem full_eq (m : Aw.M) (d X : Int) (M0 : Aw.M) (hc : clean m = M0) (hd : 0 < d) (hX : X = max m.now (Aw.firstOf m.now d m.unit - m.guard)) : m.enter.know d = wakeAt (lastAt M0 (m.now + d * m.unit)) X := by
  rw [know_yes m d hd]
  unfold told
  rw [hc, hX]
  rfl
theorem mid_eq (m : Aw.M) (d X : Int) (M0 : Aw.M) (hc : clean m = M0) (hd : 0 < d) (hX : X = max m.now (Aw.firstOf m.now d m.unit - m.guard)) : wakeAt (lastAt M0 (m.now + d * m.unit)) X = m.hear d false := by
  rw [hear_mid, full_eq m d X M0 hc hd hX]
theorem clean_now (m : Aw.M) : (clean m).now = m.now := by unfold clean Aw.M.enter; simp only; split <;> rfl
theorem clean_pat (m : Aw.M) : (clean m).pat = m.pat := by unfold clean Aw.M.enter; simp only; split <;> rfl
theorem rest_eq (m : Aw.M) (d X : Int) (M0 : Aw.M) (hi : m.Inv) (hm0 : 0 < d * m.unit) : (wakeAt (lastAt M0 (m.now + d * m.unit)) X).rest = (wakeAt (lastAt M0 (m.now + d * m.unit)) X).setState 2 := by
  unfold Aw.M.rest
  rw [if_neg]
  have := hi.n1
  simp only [wakeAt, lastAt]
  omega
theorem sleep_eq (m : Aw.M) (d X : Int) (M0 : Aw.M) (hc : clean m = M0) (hd : 0 < d) (hi : m.Inv) (hm0 : 0 < d * m.unit) (hX : X = max m.now (Aw.firstOf m.now d m.unit - m.guard)) (hw : m.now < X) :
    (wakeAt (lastAt M0 (m.now + d * m.unit)) X).setState 2 = m.hear d true := by
  rw [hear_frame, full_eq m d X M0 hc hd hX, rest_eq m d X M0 hi hm0, settle2_sleep _ rfl, s2_asleep _ rfl]
  have := clean_now m
  rw [hc] at this
  show M0.now < X
  omega
theorem wait_eq (m : Aw.M) (d X : Int) (M0 : Aw.M) (hc : clean m = M0) (hd : 0 < d) (hi : m.Inv) (hm0 : 0 < d * m.unit) (hX : X = max m.now (Aw.firstOf m.now d m.unit - m.guard)) (hw : ¬ m.now < X) :
    ((wakeAt (lastAt M0 (m.now + d * m.unit)) X).setState 2).setState 3 = m.hear d true := by
  have h1 := clean_now m
  have h2 := clean_pat m
  have h3 := hi.p1
  rw [hc] at h1 h2
  rw [hear_frame, full_eq m d X M0 hc hd hX, rest_eq m d X M0 hi hm0, settle2_sleep _ rfl, s2_awaken _ rfl, expire_no]
  · show ¬ (m.now + d * m.unit) + M0.pat < M0.now
    omega
  · show ¬ M0.now < X
    omega



set_option maxHeartbeats 1000000 in
theorem rheard_try1 (m : Aw.M) (g : Nat) (d a : Int) (tb fr : Bool) (w : World) (hm : RAt w g m) (hi : m.Inv) (h2 : ¬ m.state = 2) (h4 : ¬ m.state = 4) (hd : 0 < d) (hd' : d < 4096) (ha : 0 ≤ a) (ha' : a < 262144) :
    Calls Try.prog 19 #[.pointer (some ⟨g, 0, none⟩), .agg #[.int .i64 d, .bool tb, .bool fr, .int .i64 a]] w fun e w' => e = .returned (.int .i64 0) ∧ RTurned w w' g (m.hear d fr) := by
  have hlt : g < w.heap.size := Blk.lt hm
  have c4 := Blk.cell hm 4 (v := .int .i64 m.now) rfl
  have c5 := Blk.cell hm 5 (v := .int .i64 m.state) rfl
  have c6 := Blk.cell hm 6 (v := .int .i64 m.begun) rfl
  have c7 := Blk.cell hm 7 (v := .bool (kn m)) rfl
  have c8 := Blk.cell hm 8 (v := .int .i64 m.wake) rfl
  have c9 := Blk.cell hm 9 (v := .int .i64 m.last) rfl
  have z5 := Blk.frozen hm 5
  have z6 := Blk.frozen hm 6
  have z7 := Blk.frozen hm 7
  have z8 := Blk.frozen hm 8
  have z9 := Blk.frozen hm 9
  have e2 : (m.state == 2) = false := by simpa using h2
  have e4 : (m.state != 4) = true := by simpa using h4
  have HC := Lib.hid (show clean m = ⟨m.unit, m.guard, m.burst, m.pat, m.now, 4, m.now, 0, 0, m.spent, m.missed⟩ by unfold clean Aw.M.enter; rw [if_neg h4])
  have dg : decide (0 < d) = true := by simpa using hd
  clear h2 h4
  go_enter Try.func19, Try.ntmps19
  go_wp2
  refine wp_gen (fun W => RHears w W g ⟨m.unit, m.guard, m.burst, m.pat, m.now, 4, m.now, 0, 0, m.spent, m.missed⟩ true d a tb fr) (by exact rhears0 (rentered m g w hm true) (by simp [World.setCell])) ?_
  rintro W1 hW1
  clear c4 c5 c6 c7 c8 c9 z5 z6 z7 z8 z9 e2 e4 dg
  have i1 := hi.n1
  have i2 := hi.n2
  have i3 := hi.u1
  have i4 := hi.u2
  have i5 := hi.g1
  have i6 := hi.g2
  have hm0 : 0 < d * m.unit := Int.mul_pos (by omega) (by omega)
  have hm1 : d * m.unit ≤ 4096 * 1048576 := Int.mul_le_mul (by omega) i4 (by omega) (by omega)
  have q4 := fun p => Blk.cell (hW1.ext_ p).at_ 4 (v := .int .i64 m.now) rfl
  have q0 := fun p => Blk.cell (hW1.ext_ p).at_ 0 (v := .int .i64 m.unit) rfl
  have b0 := fun p => Blk.cell (hW1.ext_ p).b 0 (v := .int .i64 d) rfl
  refine Go.Proofs.Ytknjnpagbpjlkaa.Q.region_ext_tail 15 (by kernel_rfl) (by kernel_rfl) ?_
  simp only [List.take_succ_cons, List.take_zero, List.drop_succ_cons, List.drop_zero]
  repeat (go_big_quiet_step (fail))
  refine wpQuiet_nil ?_
  rintro w2 ⟨pq, hw2⟩
  have hW2 := hW1.ext_ pq
  rw [← hw2] at hW2
  clear hw2 q4 q0 b0 hW1
  have q9 := Blk.cell hW2.at_ 9 (v := .int .i64 0) rfl
  have y9 := Blk.frozen hW2.at_ 9
  go_wp2_with fail
  have hW3 := hW2.last hlt (m.now + d * m.unit)
  clear q9 y9
  have q4 := fun p => Blk.cell (hW3.ext_ p).at_ 4 (v := .int .i64 m.now) rfl
  have q0 := fun p => Blk.cell (hW3.ext_ p).at_ 0 (v := .int .i64 m.unit) rfl
  have q1 := fun p => Blk.cell (hW3.ext_ p).at_ 1 (v := .int .i64 m.guard) rfl
  have q9 := fun p => Blk.cell (hW3.ext_ p).at_ 9 (v := .int .i64 (m.now + d * m.unit)) rfl
  refine Go.Proofs.Ytknjnpagbpjlkaa.Q.region_ext_tail 23 (by kernel_rfl) (by kernel_rfl) ?_
  simp only [List.take_succ_cons, List.take_zero, List.drop_succ_cons, List.drop_zero]
  repeat (go_big_quiet_step (fail))
  refine wpQuiet_nil ?_
  rintro w4 ⟨pq2, hw4⟩
  have hW4 := hW3.ext_ pq2
  rw [← hw4] at hW4
  clear hw4 q4 q0 q1 q9 hW3 hW2
  have q8 := Blk.cell hW4.at_ 8 (v := .int .i64 0) rfl
  have y8 := Blk.frozen hW4.at_ 8
  have r2 := fun x => Blk.cell (hW4.wake hlt x).b 2 (v := .bool fr) rfl
  have r4 := fun x => Blk.cell (hW4.wake hlt x).at_ 4 (v := .int .i64 m.now) rfl
  have r5 := fun x => Blk.cell (hW4.wake hlt x).at_ 5 (v := .int .i64 4) rfl
  have r7 := fun x => Blk.cell (hW4.wake hlt x).at_ 7 (v := .bool true) rfl
  have r8 := fun x => Blk.cell (hW4.wake hlt x).at_ 8 (v := .int .i64 x) rfl
  have s5 := fun x => Blk.frozen (hW4.wake hlt x).at_ 5
  go_wp2_with (first | go_quiet (fail))
  all_goals go_ret
  · refine ⟨rfl, RTurned.eq_ ((((RTurned.ofHears (hW4.wake hlt _) (kn_last (by simp only [wakeAt, lastAt]; omega))).state 2).drewN _).state 3) (wait_eq m d _ _ HC.out hd hi (by omega) ?_ ?_)⟩ <;> (go_light; try unfold Aw.firstOf at *) <;> (repeat' split) <;> omega
  · refine ⟨rfl, RTurned.eq_ (((RTurned.ofHears (hW4.wake hlt _) (kn_last (by simp only [wakeAt, lastAt]; omega))).state 2).drewN _) (sleep_eq m d _ _ HC.out hd hi (by omega) ?_ ?_)⟩ <;> (go_light; try unfold Aw.firstOf at *) <;> (repeat' split) <;> omega
  all_goals (refine ⟨rfl, RTurned.eq_ (RTurned.ofHears (hW4.wake hlt _) (kn_last (by simp only [wakeAt, lastAt]; omega))) (mid_eq m d _ _ HC.out hd ?_)⟩ <;> (go_light; try unfold Aw.firstOf at *) <;> (repeat' split) <;> omega)

set_option maxHeartbeats 1000000 in
theorem rheard_try2 (m : Aw.M) (g : Nat) (d a : Int) (tb fr : Bool) (w : World) (hm : RAt w g m) (hi : m.Inv) (h2 : ¬ m.state = 2) (h4 : m.state = 4) (hd : 0 < d) (hd' : d < 4096) (ha : 0 ≤ a) (ha' : a < 262144) :
    Calls Try.prog 19 #[.pointer (some ⟨g, 0, none⟩), .agg #[.int .i64 d, .bool tb, .bool fr, .int .i64 a]] w fun e w' => e = .returned (.int .i64 0) ∧ RTurned w w' g (m.hear d fr) := by
  have hlt : g < w.heap.size := Blk.lt hm
  have c4 := Blk.cell hm 4 (v := .int .i64 m.now) rfl
  have c5 := Blk.cell hm 5 (v := .int .i64 m.state) rfl
  have c6 := Blk.cell hm 6 (v := .int .i64 m.begun) rfl
  have c7 := Blk.cell hm 7 (v := .bool (kn m)) rfl
  have c8 := Blk.cell hm 8 (v := .int .i64 m.wake) rfl
  have c9 := Blk.cell hm 9 (v := .int .i64 m.last) rfl
  have z5 := Blk.frozen hm 5
  have z6 := Blk.frozen hm 6
  have z7 := Blk.frozen hm 7
  have z8 := Blk.frozen hm 8
  have z9 := Blk.frozen hm 9
  have e2 : (m.state == 2) = false := by simpa using h2
  have e4 : (m.state != 4) = false := by simpa using h4
  have HC := Lib.hid (show clean m = ⟨m.unit, m.guard, m.burst, m.pat, m.now, m.state, m.begun, 0, 0, m.spent, m.missed⟩ by unfold clean Aw.M.enter; rw [if_pos h4])
  have dg : decide (0 < d) = true := by simpa using hd
  clear h2 h4
  go_enter Try.func19, Try.ntmps19
  go_wp2
  refine wp_gen (fun W => RHears w W g ⟨m.unit, m.guard, m.burst, m.pat, m.now, m.state, m.begun, 0, 0, m.spent, m.missed⟩ true d a tb fr) (by exact rhears0 (rcleared m g w hm true) (by simp [World.setCell])) ?_
  rintro W1 hW1
  clear c4 c5 c6 c7 c8 c9 z5 z6 z7 z8 z9 e2 e4 dg
  have i1 := hi.n1
  have i2 := hi.n2
  have i3 := hi.u1
  have i4 := hi.u2
  have i5 := hi.g1
  have i6 := hi.g2
  have hm0 : 0 < d * m.unit := Int.mul_pos (by omega) (by omega)
  have hm1 : d * m.unit ≤ 4096 * 1048576 := Int.mul_le_mul (by omega) i4 (by omega) (by omega)
  have q4 := fun p => Blk.cell (hW1.ext_ p).at_ 4 (v := .int .i64 m.now) rfl
  have q0 := fun p => Blk.cell (hW1.ext_ p).at_ 0 (v := .int .i64 m.unit) rfl
  have b0 := fun p => Blk.cell (hW1.ext_ p).b 0 (v := .int .i64 d) rfl
  refine Go.Proofs.Ytknjnpagbpjlkaa.Q.region_ext_tail 15 (by kernel_rfl) (by kernel_rfl) ?_
  simp only [List.take_succ_cons, List.take_zero, List.drop_succ_cons, List.drop_zero]
  repeat (go_big_quiet_step (fail))
  refine wpQuiet_nil ?_
  rintro w2 ⟨pq, hw2⟩
  have hW2 := hW1.ext_ pq
  rw [← hw2] at hW2
  clear hw2 q4 q0 b0 hW1
  have q9 := Blk.cell hW2.at_ 9 (v := .int .i64 0) rfl
  have y9 := Blk.frozen hW2.at_ 9
  go_wp2_with fail
  have hW3 := hW2.last hlt (m.now + d * m.unit)
  clear q9 y9
  have q4 := fun p => Blk.cell (hW3.ext_ p).at_ 4 (v := .int .i64 m.now) rfl
  have q0 := fun p => Blk.cell (hW3.ext_ p).at_ 0 (v := .int .i64 m.unit) rfl
  have q1 := fun p => Blk.cell (hW3.ext_ p).at_ 1 (v := .int .i64 m.guard) rfl
  have q9 := fun p => Blk.cell (hW3.ext_ p).at_ 9 (v := .int .i64 (m.now + d * m.unit)) rfl
  refine Go.Proofs.Ytknjnpagbpjlkaa.Q.region_ext_tail 23 (by kernel_rfl) (by kernel_rfl) ?_
  simp only [List.take_succ_cons, List.take_zero, List.drop_succ_cons, List.drop_zero]
  repeat (go_big_quiet_step (fail))
  refine wpQuiet_nil ?_
  rintro w4 ⟨pq2, hw4⟩
  have hW4 := hW3.ext_ pq2
  rw [← hw4] at hW4
  clear hw4 q4 q0 q1 q9 hW3 hW2
  have q8 := Blk.cell hW4.at_ 8 (v := .int .i64 0) rfl
  have y8 := Blk.frozen hW4.at_ 8
  have r2 := fun x => Blk.cell (hW4.wake hlt x).b 2 (v := .bool fr) rfl
  have r4 := fun x => Blk.cell (hW4.wake hlt x).at_ 4 (v := .int .i64 m.now) rfl
  have r5 := fun x => Blk.cell (hW4.wake hlt x).at_ 5 (v := .int .i64 m.state) rfl
  have r7 := fun x => Blk.cell (hW4.wake hlt x).at_ 7 (v := .bool true) rfl
  have r8 := fun x => Blk.cell (hW4.wake hlt x).at_ 8 (v := .int .i64 x) rfl
  have s5 := fun x => Blk.frozen (hW4.wake hlt x).at_ 5
  go_wp2_with (first | go_quiet (fail))
  all_goals go_ret
  · refine ⟨rfl, RTurned.eq_ ((((RTurned.ofHears (hW4.wake hlt _) (kn_last (by simp only [wakeAt, lastAt]; omega))).state 2).drewN _).state 3) (wait_eq m d _ _ HC.out hd hi (by omega) ?_ ?_)⟩ <;> (go_light; try unfold Aw.firstOf at *) <;> (repeat' split) <;> omega
  · refine ⟨rfl, RTurned.eq_ (((RTurned.ofHears (hW4.wake hlt _) (kn_last (by simp only [wakeAt, lastAt]; omega))).state 2).drewN _) (sleep_eq m d _ _ HC.out hd hi (by omega) ?_ ?_)⟩ <;> (go_light; try unfold Aw.firstOf at *) <;> (repeat' split) <;> omega
  all_goals (refine ⟨rfl, RTurned.eq_ (RTurned.ofHears (hW4.wake hlt _) (kn_last (by simp only [wakeAt, lastAt]; omega))) (mid_eq m d _ _ HC.out hd ?_)⟩ <;> (go_light; try unfold Aw.firstOf at *) <;> (repeat' split) <;> omega)

theorem clean_end (m : Aw.M) (d : Int) (hd : d ≤ 0) : (clean m).reset = m.hear d true := by
  rw [hear_frame, know_no m d hd, rest_yes (clean m) rfl rfl, show (clean m).reset.settle = (clean m).reset.settle2 by unfold Aw.M.settle; rw [if_neg (fun h => by simp [Aw.M.reset] at h)], s2_else _ (by simp [Aw.M.reset]) (by simp [Aw.M.reset])]
theorem clean_mid (m : Aw.M) (d : Int) (hd : d ≤ 0) : clean m = m.hear d false := by
  rw [hear_mid, know_no m d hd]
theorem rhears_clean (m : Aw.M) (g : Nat) (w W : World) (d a : Int) (tb fr : Bool) (M0 : Aw.M) (hc : clean m = M0) (h : RHears w W g M0 false d a tb fr) : RTurned w W g (clean m) := by
  rw [← hc] at h
  exact RTurned.ofHears h (by simp [kn, clean])


set_option maxHeartbeats 1000000 in
theorem rheard_try3 (m : Aw.M) (g : Nat) (d a : Int) (tb fr : Bool) (w : World) (hm : RAt w g m) (h2 : ¬ m.state = 2) (h4 : ¬ m.state = 4) (hd : 0 ≤ d) (hd' : d ≤ 0) (ha : 0 ≤ a) (ha' : a < 262144) :
    Calls Try.prog 19 #[.pointer (some ⟨g, 0, none⟩), .agg #[.int .i64 d, .bool tb, .bool fr, .int .i64 a]] w fun e w' => e = .returned (.int .i64 0) ∧ RTurned w w' g (m.hear d fr) := by
  have hlt : g < w.heap.size := Blk.lt hm
  have c4 := Blk.cell hm 4 (v := .int .i64 m.now) rfl
  have c5 := Blk.cell hm 5 (v := .int .i64 m.state) rfl
  have c6 := Blk.cell hm 6 (v := .int .i64 m.begun) rfl
  have c7 := Blk.cell hm 7 (v := .bool (kn m)) rfl
  have c8 := Blk.cell hm 8 (v := .int .i64 m.wake) rfl
  have c9 := Blk.cell hm 9 (v := .int .i64 m.last) rfl
  have z5 := Blk.frozen hm 5
  have z6 := Blk.frozen hm 6
  have z7 := Blk.frozen hm 7
  have z8 := Blk.frozen hm 8
  have z9 := Blk.frozen hm 9
  have e2 : (m.state == 2) = false := by simpa using h2
  have e4 : (m.state != 4) = true := by simpa using h4
  have HC := Lib.hid (show clean m = ⟨m.unit, m.guard, m.burst, m.pat, m.now, 4, m.now, 0, 0, m.spent, m.missed⟩ by unfold clean Aw.M.enter; rw [if_neg h4])
  have dg : decide (0 < d) = false := by simpa using hd'
  clear h2 h4
  cases fr
  · go_enter Try.func19, Try.ntmps19
    go_wp2
    have h1 := rhears_clean m g w _ d a tb false _ HC.out (rhears0 (rentered m g w hm false) (by simp [World.setCell]))
    go_ret
    exact ⟨rfl, RTurned.eq_ h1 (clean_mid m d (by omega))⟩
  · go_enter Try.func19, Try.ntmps19
    go_wp2_with fail
    have h1 := rhears_clean m g w _ d a tb true _ HC.out (rhears0 (rentered m g w hm false) (by simp [World.setCell]))
    (with_reducible refine (forget_any _ g _ h1.at_).mono ?_); rintro e w1 ⟨rfl, ht⟩
    go_wp2
    go_ret
    exact ⟨rfl, RTurned.eq_ (h1.trans ht) (clean_end m d (by omega))⟩

set_option maxHeartbeats 1000000 in
theorem rheard_try4 (m : Aw.M) (g : Nat) (d a : Int) (tb fr : Bool) (w : World) (hm : RAt w g m) (h2 : ¬ m.state = 2) (h4 : m.state = 4) (hd : 0 ≤ d) (hd' : d ≤ 0) (ha : 0 ≤ a) (ha' : a < 262144) :
    Calls Try.prog 19 #[.pointer (some ⟨g, 0, none⟩), .agg #[.int .i64 d, .bool tb, .bool fr, .int .i64 a]] w fun e w' => e = .returned (.int .i64 0) ∧ RTurned w w' g (m.hear d fr) := by
  have hlt : g < w.heap.size := Blk.lt hm
  have c4 := Blk.cell hm 4 (v := .int .i64 m.now) rfl
  have c5 := Blk.cell hm 5 (v := .int .i64 m.state) rfl
  have c6 := Blk.cell hm 6 (v := .int .i64 m.begun) rfl
  have c7 := Blk.cell hm 7 (v := .bool (kn m)) rfl
  have c8 := Blk.cell hm 8 (v := .int .i64 m.wake) rfl
  have c9 := Blk.cell hm 9 (v := .int .i64 m.last) rfl
  have z5 := Blk.frozen hm 5
  have z6 := Blk.frozen hm 6
  have z7 := Blk.frozen hm 7
  have z8 := Blk.frozen hm 8
  have z9 := Blk.frozen hm 9
  have e2 : (m.state == 2) = false := by simpa using h2
  have e4 : (m.state != 4) = false := by simpa using h4
  have HC := Lib.hid (show clean m = ⟨m.unit, m.guard, m.burst, m.pat, m.now, m.state, m.begun, 0, 0, m.spent, m.missed⟩ by unfold clean Aw.M.enter; rw [if_pos h4])
  have dg : decide (0 < d) = false := by simpa using hd'
  clear h2 h4
  cases fr
  · go_enter Try.func19, Try.ntmps19
    go_wp2
    have h1 := rhears_clean m g w _ d a tb false _ HC.out (rhears0 (rcleared m g w hm false) (by simp [World.setCell]))
    go_ret
    exact ⟨rfl, RTurned.eq_ h1 (clean_mid m d (by omega))⟩
  · go_enter Try.func19, Try.ntmps19
    go_wp2_with fail
    have h1 := rhears_clean m g w _ d a tb true _ HC.out (rhears0 (rcleared m g w hm false) (by simp [World.setCell]))
    (with_reducible refine (forget_any _ g _ h1.at_).mono ?_); rintro e w1 ⟨rfl, ht⟩
    go_wp2
    go_ret
    exact ⟨rfl, RTurned.eq_ (h1.trans ht) (clean_end m d (by omega))⟩

theorem rheard_any (m : Aw.M) (g : Nat) (d a : Int) (tb fr : Bool) (w : World) (hm : RAt w g m) (hi : m.Inv) :
    Calls Try.prog 19 #[.pointer (some ⟨g, 0, none⟩), .agg #[.int .i64 d, .bool tb, .bool fr, .int .i64 a]] w fun e w' => e = .returned (.int .i64 (m.heardE d a)) ∧ RTurned w w' g (m.heard d fr a) := by
  by_cases h2 : m.state = 2
  · have e1 : m.heardE d a = 22 := by simp [Aw.M.heardE, h2]
    have e2 : m.heard d fr a = m := by simp [Aw.M.heard, e1]
    rw [e1, e2]
    exact rheard_sleep m g d a tb fr w hm h2
  · have e1 : m.heardE d a = Aw.timesE d a := by simp [Aw.M.heardE, h2]
    rw [e1]
    by_cases hE : 0 ≤ d ∧ d < 4096 ∧ 0 ≤ a ∧ a < 262144
    · have e0 : Aw.timesE d a = 0 := by unfold Aw.timesE Aw.timesOk; rw [decide_eq_true hE]; rfl
      have e2 : m.heard d fr a = m.hear d fr := by simp [Aw.M.heard, e1, e0]
      rw [e2, e0]
      obtain ⟨g1, g2, g3, g4⟩ := hE
      by_cases h4 : m.state = 4
      · by_cases hd : 0 < d
        · exact rheard_try2 m g d a tb fr w hm hi h2 h4 hd g2 g3 g4
        · exact rheard_try4 m g d a tb fr w hm h2 h4 g1 (by omega) g3 g4
      · by_cases hd : 0 < d
        · exact rheard_try1 m g d a tb fr w hm hi h2 h4 hd g2 g3 g4
        · exact rheard_try3 m g d a tb fr w hm h2 h4 g1 (by omega) g3 g4
    · have e0 : Aw.timesE d a = 15 := by unfold Aw.timesE Aw.timesOk; rw [decide_eq_false hE]; rfl
      have e2 : m.heard d fr a = m := by simp [Aw.M.heard, e1, e0]
      rw [e2, e0]
      exact rheard_bad m g d a tb fr w hm h2 hE
end Go.Proofs.Ytknjnpagbpjlkaa.AwU
