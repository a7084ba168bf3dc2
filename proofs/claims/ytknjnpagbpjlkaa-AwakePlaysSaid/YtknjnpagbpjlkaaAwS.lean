/- Walks over the document's machine of layer 21: the end of a burst; Next whole. -/
import Derived.Test.YtknjnpagbpjlkaaAwR
namespace Go.Proofs.Ytknjnpagbpjlkaa.AwS
open Go.RowKit Go.Proofs.Ytknjnpagbpjlkaa.Q Go.Proofs.Ytknjnpagbpjlkaa.Mem Go.Proofs.Ytknjnpagbpjlkaa.AwA Go.Proofs.Ytknjnpagbpjlkaa.AwB Go.Proofs.Ytknjnpagbpjlkaa.AwC Go.Proofs.Ytknjnpagbpjlkaa.AwD Go.Proofs.Ytknjnpagbpjlkaa.AwE Go.Proofs.Ytknjnpagbpjlkaa.AwR

theorem setState_kn (m : Aw.M) (s : Int) : kn (m.setState s) = kn m := rfl

set_option maxHeartbeats 1000000 in
theorem rnext_h (m t : Aw.M) (htk : m.tick = t) (g : Nat) (w : World) (hm : RAt w g m) (hi : m.Inv) (hn : m.now < 1099511627775) (hs : Small t) (h2 : ¬ m.state = 2) (hst : t.state = 4) (hb : t.burst ≤ t.now - t.begun) (hk : t.wake = 0 ∧ t.last = 0) :
        Calls Try.prog 17 #[.pointer (some ⟨g, 0, none⟩)] w fun e w' => e = .returned (.tuple #[]) ∧ RTurned w w' g t.settle := by
  have HE := Lib.hid (show (t.setState 2).reset = t.settle by rw [settle2_over _ hst hb, rest_yes t hk.1 hk.2, s2_else _ (by simp [Aw.M.reset]) (by simp [Aw.M.reset])]; rfl)
  have ek : kn t = false := by simp [kn, hk]
  rw [← HE.out]
  clear HE hk
  have hn1 := hi.n1
  have ht1 := hi.t1
  have ht2 := hi.t2
  have c4 := Blk.cell hm 4 (v := .int .i64 m.now) rfl
  have c5 := Blk.cell hm 5 (v := .int .i64 m.state) rfl
  have c10 := Blk.cell hm 10 (v := .int .i64 m.spent) rfl
  have z4 := Blk.frozen hm 4
  have z10 := Blk.frozen hm 10
  have n1 := hs.n1
  have n2 := hs.n2
  have b1 := hs.b1
  have b2 := hs.b2
  have w1 := hs.w1
  have w2 := hs.w2
  have p1 := hs.p1
  have p2 := hs.p2
  have x1 := hs.x1
  have x2 := hs.x2
  have HT := Lib.hid (show t = ⟨m.unit, m.guard, m.burst, m.pat, m.now + 1, m.state, m.begun, m.wake, m.last, m.spent + 1, m.missed⟩ by rw [← htk]; unfold Aw.M.tick; rw [if_neg h2])
  have e2 : (m.state != 2) = true := by simpa using h2
  clear h2 htk
  go_enter Try.func17, Try.ntmps17
  go_wp2
  refine wp_gen (fun W => RTurned w W g t) (by rw [HT.out]; exact (RTurned.refl hm).tick _) ?_
  rintro W1 hW
  clear c4 c5 c10 z4 z10 e2 HT hn1 ht1 ht2 hi hn hm
  have d2 := Blk.cell hW.at_ 2 (v := .int .i64 t.burst) rfl
  have d3 := Blk.cell hW.at_ 3 (v := .int .i64 t.pat) rfl
  have d4 := Blk.cell hW.at_ 4 (v := .int .i64 t.now) rfl
  have d5 := Blk.cell hW.at_ 5 (v := .int .i64 t.state) rfl
  have d6 := Blk.cell hW.at_ 6 (v := .int .i64 t.begun) rfl
  have d7 := Blk.cell hW.at_ 7 (v := .bool (kn t)) rfl
  have d8 := Blk.cell hW.at_ 8 (v := .int .i64 t.wake) rfl
  have d9 := Blk.cell hW.at_ 9 (v := .int .i64 t.last) rfl
  have dz5 := Blk.frozen hW.at_ 5
  rw [hst] at d5
  rw [ek] at d7
  have e4 : ((4 : Int) == 4) = true := rfl
  have e3 : ((1 : Int) == 3) = false := rfl
  have e2 : ((1 : Int) == 2) = false := rfl
  have hb' : decide (t.burst ≤ t.now - t.begun) = true := by simpa using hb
  clear hb ek
  go_wp2_with (first | go_quiet (fail))
  have h1 := fun a => (hW.drewN a).state 2
  (with_reducible refine (forget_any (t.setState 2) g _ (h1 _).at_).mono ?_); rintro e w1 ⟨rfl, ht⟩
  have h3 := (h1 _).trans ht
  have f5 := Blk.cell ht.1 5 (v := .int .i64 1) rfl
  go_wp2_with (first | go_quiet (fail))
  all_goals (first | (refine bodyPost_ret (results_none rfl _ _ _) rfl ?_) | go_end0)
  exact ⟨rfl, (h3.drewN _).drewN _⟩


set_option maxHeartbeats 1000000 in
theorem rnext_i (m t : Aw.M) (htk : m.tick = t) (g : Nat) (w : World) (hm : RAt w g m) (hi : m.Inv) (hn : m.now < 1099511627775) (hs : Small t) (h2 : ¬ m.state = 2) (hst : t.state = 4) (hb : t.burst ≤ t.now - t.begun) (hk : ¬ (t.wake = 0 ∧ t.last = 0)) (hw : t.now < t.wake) :
        Calls Try.prog 17 #[.pointer (some ⟨g, 0, none⟩)] w fun e w' => e = .returned (.tuple #[]) ∧ RTurned w w' g t.settle := by
  rw [settle2_over _ hst hb, show t.rest = t.setState 2 by unfold Aw.M.rest; rw [if_neg hk], s2_asleep _ rfl (by exact hw)]
  have ek : kn t = true := by simp only [kn, hk]; rfl
  have hn1 := hi.n1
  have ht1 := hi.t1
  have ht2 := hi.t2
  have c4 := Blk.cell hm 4 (v := .int .i64 m.now) rfl
  have c5 := Blk.cell hm 5 (v := .int .i64 m.state) rfl
  have c10 := Blk.cell hm 10 (v := .int .i64 m.spent) rfl
  have z4 := Blk.frozen hm 4
  have z10 := Blk.frozen hm 10
  have n1 := hs.n1
  have n2 := hs.n2
  have b1 := hs.b1
  have b2 := hs.b2
  have w1 := hs.w1
  have w2 := hs.w2
  have p1 := hs.p1
  have p2 := hs.p2
  have x1 := hs.x1
  have x2 := hs.x2
  have HT := Lib.hid (show t = ⟨m.unit, m.guard, m.burst, m.pat, m.now + 1, m.state, m.begun, m.wake, m.last, m.spent + 1, m.missed⟩ by rw [← htk]; unfold Aw.M.tick; rw [if_neg h2])
  have e2 : (m.state != 2) = true := by simpa using h2
  clear h2 htk
  go_enter Try.func17, Try.ntmps17
  go_wp2
  refine wp_gen (fun W => RTurned w W g t) (by rw [HT.out]; exact (RTurned.refl hm).tick _) ?_
  rintro W1 hW
  clear c4 c5 c10 z4 z10 e2 HT hn1 ht1 ht2 hi hn hm
  have d2 := Blk.cell hW.at_ 2 (v := .int .i64 t.burst) rfl
  have d3 := Blk.cell hW.at_ 3 (v := .int .i64 t.pat) rfl
  have d4 := Blk.cell hW.at_ 4 (v := .int .i64 t.now) rfl
  have d5 := Blk.cell hW.at_ 5 (v := .int .i64 t.state) rfl
  have d6 := Blk.cell hW.at_ 6 (v := .int .i64 t.begun) rfl
  have d7 := Blk.cell hW.at_ 7 (v := .bool (kn t)) rfl
  have d8 := Blk.cell hW.at_ 8 (v := .int .i64 t.wake) rfl
  have d9 := Blk.cell hW.at_ 9 (v := .int .i64 t.last) rfl
  have dz5 := Blk.frozen hW.at_ 5
  rw [hst] at d5
  rw [ek] at d7
  have e4 : ((4 : Int) == 4) = true := rfl
  have hb' : decide (t.burst ≤ t.now - t.begun) = true := by simpa using hb
  clear hb ek
  clear hk
  have e3 : ((2 : Int) == 3) = false := rfl
  go_wp2_with (first | go_quiet (fail))
  all_goals (first | (refine bodyPost_ret (results_none rfl _ _ _) rfl ?_) | go_end0)
  first | exact ⟨rfl, (((hW.drewN _).state 2).drewN _).drewN _⟩ | exact ⟨rfl, ((hW.drewN _).state 2).drewN _⟩

set_option maxHeartbeats 1000000 in
theorem rnext_j (m t : Aw.M) (htk : m.tick = t) (g : Nat) (w : World) (hm : RAt w g m) (hi : m.Inv) (hn : m.now < 1099511627775) (hs : Small t) (h2 : ¬ m.state = 2) (hst : t.state = 4) (hb : t.burst ≤ t.now - t.begun) (hk : ¬ (t.wake = 0 ∧ t.last = 0)) (hw : ¬ t.now < t.wake) (hx : ¬ t.last + t.pat < t.now) :
        Calls Try.prog 17 #[.pointer (some ⟨g, 0, none⟩)] w fun e w' => e = .returned (.tuple #[]) ∧ RTurned w w' g t.settle := by
  rw [settle2_over _ hst hb, show t.rest = t.setState 2 by unfold Aw.M.rest; rw [if_neg hk], s2_awaken _ rfl (by exact hw), expire_no _ (by exact hx)]
  have ek : kn t = true := by simp only [kn, hk]; rfl
  have hn1 := hi.n1
  have ht1 := hi.t1
  have ht2 := hi.t2
  have c4 := Blk.cell hm 4 (v := .int .i64 m.now) rfl
  have c5 := Blk.cell hm 5 (v := .int .i64 m.state) rfl
  have c10 := Blk.cell hm 10 (v := .int .i64 m.spent) rfl
  have z4 := Blk.frozen hm 4
  have z10 := Blk.frozen hm 10
  have n1 := hs.n1
  have n2 := hs.n2
  have b1 := hs.b1
  have b2 := hs.b2
  have w1 := hs.w1
  have w2 := hs.w2
  have p1 := hs.p1
  have p2 := hs.p2
  have x1 := hs.x1
  have x2 := hs.x2
  have HT := Lib.hid (show t = ⟨m.unit, m.guard, m.burst, m.pat, m.now + 1, m.state, m.begun, m.wake, m.last, m.spent + 1, m.missed⟩ by rw [← htk]; unfold Aw.M.tick; rw [if_neg h2])
  have e2 : (m.state != 2) = true := by simpa using h2
  clear h2 htk
  go_enter Try.func17, Try.ntmps17
  go_wp2
  refine wp_gen (fun W => RTurned w W g t) (by rw [HT.out]; exact (RTurned.refl hm).tick _) ?_
  rintro W1 hW
  clear c4 c5 c10 z4 z10 e2 HT hn1 ht1 ht2 hi hn hm
  have d2 := Blk.cell hW.at_ 2 (v := .int .i64 t.burst) rfl
  have d3 := Blk.cell hW.at_ 3 (v := .int .i64 t.pat) rfl
  have d4 := Blk.cell hW.at_ 4 (v := .int .i64 t.now) rfl
  have d5 := Blk.cell hW.at_ 5 (v := .int .i64 t.state) rfl
  have d6 := Blk.cell hW.at_ 6 (v := .int .i64 t.begun) rfl
  have d7 := Blk.cell hW.at_ 7 (v := .bool (kn t)) rfl
  have d8 := Blk.cell hW.at_ 8 (v := .int .i64 t.wake) rfl
  have d9 := Blk.cell hW.at_ 9 (v := .int .i64 t.last) rfl
  have dz5 := Blk.frozen hW.at_ 5
  rw [hst] at d5
  rw [ek] at d7
  have e4 : ((4 : Int) == 4) = true := rfl
  have hb' : decide (t.burst ≤ t.now - t.begun) = true := by simpa using hb
  clear hb ek
  clear hk
  go_wp2_with (first | go_quiet (fail))
  all_goals (first | (refine bodyPost_ret (results_none rfl _ _ _) rfl ?_) | go_end0)
  exact ⟨rfl, ((((hW.drewN _).state 2).drewN _).state 3).drewN _⟩

set_option maxHeartbeats 1000000 in
theorem rnext_k (m t : Aw.M) (htk : m.tick = t) (g : Nat) (w : World) (hm : RAt w g m) (hi : m.Inv) (hn : m.now < 1099511627775) (hs : Small t) (h2 : ¬ m.state = 2) (hst : t.state = 4) (hb : t.burst ≤ t.now - t.begun) (hk : ¬ (t.wake = 0 ∧ t.last = 0)) (hw : ¬ t.now < t.wake) (hx : t.last + t.pat < t.now) :
        Calls Try.prog 17 #[.pointer (some ⟨g, 0, none⟩)] w fun e w' => e = .returned (.tuple #[]) ∧ RTurned w w' g t.settle := by
  rw [settle2_over _ hst hb, show t.rest = t.setState 2 by unfold Aw.M.rest; rw [if_neg hk], s2_awaken _ rfl (by exact hw), expire_yes _ (by exact hx)]
  have ek : kn t = true := by simp only [kn, hk]; rfl
  have hn1 := hi.n1
  have ht1 := hi.t1
  have ht2 := hi.t2
  have c4 := Blk.cell hm 4 (v := .int .i64 m.now) rfl
  have c5 := Blk.cell hm 5 (v := .int .i64 m.state) rfl
  have c10 := Blk.cell hm 10 (v := .int .i64 m.spent) rfl
  have z4 := Blk.frozen hm 4
  have z10 := Blk.frozen hm 10
  have n1 := hs.n1
  have n2 := hs.n2
  have b1 := hs.b1
  have b2 := hs.b2
  have w1 := hs.w1
  have w2 := hs.w2
  have p1 := hs.p1
  have p2 := hs.p2
  have x1 := hs.x1
  have x2 := hs.x2
  have HT := Lib.hid (show t = ⟨m.unit, m.guard, m.burst, m.pat, m.now + 1, m.state, m.begun, m.wake, m.last, m.spent + 1, m.missed⟩ by rw [← htk]; unfold Aw.M.tick; rw [if_neg h2])
  have e2 : (m.state != 2) = true := by simpa using h2
  clear h2 htk
  go_enter Try.func17, Try.ntmps17
  go_wp2
  refine wp_gen (fun W => RTurned w W g t) (by rw [HT.out]; exact (RTurned.refl hm).tick _) ?_
  rintro W1 hW
  clear c4 c5 c10 z4 z10 e2 HT hn1 ht1 ht2 hi hn hm
  have d2 := Blk.cell hW.at_ 2 (v := .int .i64 t.burst) rfl
  have d3 := Blk.cell hW.at_ 3 (v := .int .i64 t.pat) rfl
  have d4 := Blk.cell hW.at_ 4 (v := .int .i64 t.now) rfl
  have d5 := Blk.cell hW.at_ 5 (v := .int .i64 t.state) rfl
  have d6 := Blk.cell hW.at_ 6 (v := .int .i64 t.begun) rfl
  have d7 := Blk.cell hW.at_ 7 (v := .bool (kn t)) rfl
  have d8 := Blk.cell hW.at_ 8 (v := .int .i64 t.wake) rfl
  have d9 := Blk.cell hW.at_ 9 (v := .int .i64 t.last) rfl
  have dz5 := Blk.frozen hW.at_ 5
  rw [hst] at d5
  rw [ek] at d7
  have e4 : ((4 : Int) == 4) = true := rfl
  have hb' : decide (t.burst ≤ t.now - t.begun) = true := by simpa using hb
  clear hb ek
  clear hk
  go_wp2_with (first | go_quiet (fail))
  have h1 := fun a b c => ((((hW.drewN a).state 2).drewN b).state 3).drewN c
  (with_reducible refine (forget_any ((t.setState 2).setState 3) g _ (h1 _ _ _).at_).mono ?_); rintro e w1 ⟨rfl, ht⟩
  have h3 := (h1 _ _ _).trans ht
  have d11 := Blk.cell ht.1 11 (v := .int .i64 t.missed) rfl
  have y11 := Blk.frozen ht.1 11
  go_wp2
  all_goals (first | (refine bodyPost_ret (results_none rfl _ _ _) rfl ?_) | go_end0)
  exact ⟨rfl, h3.miss⟩

theorem rnext_full (m : Aw.M) (g : Nat) (w : World) (hm : RAt w g m) (hn : 1099511627775 ≤ m.now) :
    Calls Try.prog 17 #[.pointer (some ⟨g, 0, none⟩)] w fun e w' => e = .returned (.tuple #[]) ∧ RTurned w w' g m := by
  have c4 := Blk.cell hm 4 (v := .int .i64 m.now) rfl
  go_enter Try.func17, Try.ntmps17
  go_wp2
  all_goals (first | (refine bodyPost_ret (results_none rfl _ _ _) rfl ?_) | go_end0)
  exact ⟨rfl, RTurned.refl hm⟩

theorem rnext_any (m : Aw.M) (g : Nat) (w : World) (hm : RAt w g m) (hi : m.Inv) :
    Calls Try.prog 17 #[.pointer (some ⟨g, 0, none⟩)] w fun e w' => e = .returned (.tuple #[]) ∧ RTurned w w' g m.next := by
  by_cases hn : 1099511627775 ≤ m.now
  · rw [show m.next = m by unfold Aw.M.next; rw [if_pos hn]]
    exact rnext_full m g w hm hn
  · rw [show m.next = m.tick.settle by unfold Aw.M.next; rw [if_neg hn]]
    have hn' : m.now < 1099511627775 := by omega
    have hs : Small m.tick := by unfold Aw.M.tick; exact small_tick m hi hn' _
    have hst : m.tick.state = m.state := rfl
    obtain ⟨t, ht⟩ : ∃ t, m.tick = t := ⟨_, rfl⟩
    rw [ht] at hs hst ⊢
    by_cases h2 : m.state = 2
    · have k2 : t.state = 2 := by omega
      by_cases hw : t.now < t.wake
      · exact rnext_a m t ht g w hm hi hn' hs h2 k2 hw
      by_cases hx : t.last + t.pat < t.now
      · exact rnext_c m t ht g w hm hi hn' hs h2 k2 hw hx
      · exact rnext_b m t ht g w hm hi hn' hs h2 k2 hw hx
    have k2 : ¬ t.state = 2 := by omega
    by_cases k3 : t.state = 3
    · by_cases hx : t.last + t.pat < t.now
      · exact rnext_e m t ht g w hm hi hn' hs h2 k3 hx
      · exact rnext_d m t ht g w hm hi hn' hs h2 k3 hx
    by_cases k4 : t.state = 4
    · by_cases hb : t.burst ≤ t.now - t.begun
      · by_cases hk : t.wake = 0 ∧ t.last = 0
        · exact rnext_h m t ht g w hm hi hn' hs h2 k4 hb hk
        by_cases hw : t.now < t.wake
        · exact rnext_i m t ht g w hm hi hn' hs h2 k4 hb hk hw
        by_cases hx : t.last + t.pat < t.now
        · exact rnext_k m t ht g w hm hi hn' hs h2 k4 hb hk hw hx
        · exact rnext_j m t ht g w hm hi hn' hs h2 k4 hb hk hw hx
      · exact rnext_g m t ht g w hm hi hn' hs h2 k4 hb
    · exact rnext_f m t ht g w hm hi hn' hs h2 k2 k3 k4
end Go.Proofs.Ytknjnpagbpjlkaa.AwS
