/- Walks over the document's machine of layer 21: it keeps the same machine, and beside it whether it knows. -/
import Derived.Test.YtknjnpagbpjlkaaAwE
namespace Go.Proofs.Ytknjnpagbpjlkaa.AwR
open Go.RowKit Go.Proofs.Ytknjnpagbpjlkaa.Q Go.Proofs.Ytknjnpagbpjlkaa.Mem Go.Proofs.Ytknjnpagbpjlkaa.AwA Go.Proofs.Ytknjnpagbpjlkaa.AwB Go.Proofs.Ytknjnpagbpjlkaa.AwC Go.Proofs.Ytknjnpagbpjlkaa.AwD Go.Proofs.Ytknjnpagbpjlkaa.AwE

def kn (m : Aw.M) : Bool := !decide (m.wake = 0 ∧ m.last = 0)
def rcells (m : Aw.M) : Array Value := #[.int .i64 m.unit, .int .i64 m.guard, .int .i64 m.burst, .int .i64 m.pat, .int .i64 m.now, .int .i64 m.state, .int .i64 m.begun, .bool (kn m), .int .i64 m.wake, .int .i64 m.last, .int .i64 m.spent, .int .i64 m.missed]
def RAt (w : World) (g : Nat) (m : Aw.M) : Prop := Blk w g 43 (rcells m)
structure RTurned (w w' : World) (g : Nat) (m : Aw.M) : Prop where
  at_ : RAt w' g m
  only : w.grownBy w' (some g)
theorem RTurned.trans {a b c : World} {g : Nat} {m m' : Aw.M} (h : RTurned a b g m) (k : RTurned b c g m') : RTurned a c g m' := ⟨k.1, only_trans h.2 k.2⟩
theorem RTurned.refl {w : World} {g : Nat} {m : Aw.M} (hm : RAt w g m) : RTurned w w g m := ⟨hm, only_refl _ _⟩
theorem RTurned.drewN {w w' : World} {g : Nat} {m : Aw.M} (h : RTurned w w' g m) (n : Nat) : RTurned w (w'.drewN n) g m := ⟨h.1, only_drewN h.2 n⟩
theorem RTurned.alloc {w w' : World} {g : Nat} {m : Aw.M} (h : RTurned w w' g m) (o : Obj) : RTurned w (w'.alloc o) g m := ⟨Blk.alloc h.at_ o, only_alloc h.only o⟩
theorem RTurned.state {w w' : World} {g : Nat} {m : Aw.M} (h : RTurned w w' g m) (s : Int) : RTurned w (w'.setCell ⟨g, 5, none⟩ (.int .i64 s)) g (m.setState s) :=
  ⟨Blk.set_ h.at_ 5 (.int .i64 s), only_set h.only _ _⟩
theorem RTurned.miss {w w' : World} {g : Nat} {m : Aw.M} (h : RTurned w w' g m) : RTurned w (w'.setCell ⟨g, 11, none⟩ (.int .i64 (m.missed + 1))) g ⟨m.unit, m.guard, m.burst, m.pat, m.now, m.state, m.begun, m.wake, m.last, m.spent, m.missed + 1⟩ :=
  ⟨Blk.set_ h.at_ 11 _, only_set h.only _ _⟩
theorem RTurned.tick {w w' : World} {g : Nat} {m : Aw.M} (h : RTurned w w' g m) (s : Int) : RTurned w ((w'.setCell ⟨g, 10, none⟩ (.int .i64 s)).setCell ⟨g, 4, none⟩ (.int .i64 (m.now + 1))) g ⟨m.unit, m.guard, m.burst, m.pat, m.now + 1, m.state, m.begun, m.wake, m.last, s, m.missed⟩ :=
  ⟨Blk.set_ (Blk.set_ h.at_ 10 _) 4 _, only_set (only_set h.only _ _) _ _⟩
theorem RTurned.tick0 {w w' : World} {g : Nat} {m : Aw.M} (h : RTurned w w' g m) : RTurned w (w'.setCell ⟨g, 4, none⟩ (.int .i64 (m.now + 1))) g ⟨m.unit, m.guard, m.burst, m.pat, m.now + 1, m.state, m.begun, m.wake, m.last, m.spent, m.missed⟩ :=
  ⟨Blk.set_ h.at_ 4 _, only_set h.only _ _⟩


theorem forget_any (m : Aw.M) (g : Nat) (w : World) (hm : RAt w g m) : Calls Try.prog 27 #[.pointer (some ⟨g, 0, none⟩)] w fun e w' => e = .returned (.tuple #[]) ∧ RTurned w w' g m.reset := by
  have c5 := Blk.cell hm 5 (v := .int .i64 m.state) rfl
  have c7 := Blk.cell hm 7 (v := .bool (kn m)) rfl
  have c8 := Blk.cell hm 8 (v := .int .i64 m.wake) rfl
  have c9 := Blk.cell hm 9 (v := .int .i64 m.last) rfl
  have z5 := Blk.frozen hm 5
  have z7 := Blk.frozen hm 7
  have z8 := Blk.frozen hm 8
  have z9 := Blk.frozen hm 9
  go_enter Try.func27, Try.ntmps27
  go_wp2
  all_goals (first | (refine bodyPost_ret (results_none rfl _ _ _) rfl ?_) | go_end0)
  exact ⟨rfl, ⟨(((Blk.set_ hm 5 (.int .i64 1)).set_ 7 (.bool false)).set_ 8 (.int .i64 0)).set_ 9 (.int .i64 0), only_set (only_set (only_set (only_set (only_refl _ _) _ _) _ _) _ _) _ _⟩⟩




set_option maxHeartbeats 1000000 in
theorem rnext_a (m t : Aw.M) (htk : m.tick = t) (g : Nat) (w : World) (hm : RAt w g m) (hi : m.Inv) (hn : m.now < 1099511627775) (hs : Small t) (h2 : m.state = 2) (hst : t.state = 2) (hw : t.now < t.wake) :
        Calls Try.prog 17 #[.pointer (some ⟨g, 0, none⟩)] w fun e w' => e = .returned (.tuple #[]) ∧ RTurned w w' g t.settle := by
  rw [settle2_sleep _ hst, s2_asleep _ hst hw]
  have hn1 := hi.n1
  have ht1 := hi.t1
  have ht2 := hi.t2
  have c4 := Blk.cell hm 4 (v := .int .i64 m.now) rfl
  have c5 := Blk.cell hm 5 (v := .int .i64 m.state) rfl
  have c10 := Blk.cell hm 10 (v := .int .i64 m.spent) rfl
  have z4 := Blk.frozen hm 4
  have z10 := Blk.frozen hm 10
  have n1 := hs.n1
  have n2 := hs.n2
  have b1 := hs.b1
  have b2 := hs.b2
  have w1 := hs.w1
  have w2 := hs.w2
  have p1 := hs.p1
  have p2 := hs.p2
  have x1 := hs.x1
  have x2 := hs.x2
  have HT := Lib.hid (show t = ⟨m.unit, m.guard, m.burst, m.pat, m.now + 1, m.state, m.begun, m.wake, m.last, m.spent, m.missed⟩ by rw [← htk]; unfold Aw.M.tick; rw [if_pos h2])
  have e2 : (m.state != 2) = false := by simpa using h2
  clear h2 htk
  go_enter Try.func17, Try.ntmps17
  go_wp2
  refine wp_gen (fun W => RTurned w W g t) (by rw [HT.out]; exact (RTurned.refl hm).tick0) ?_
  rintro W1 hW
  clear c4 c5 c10 z4 z10 e2 HT hn1 ht1 ht2 hi hn hm
  have d2 := Blk.cell hW.at_ 2 (v := .int .i64 t.burst) rfl
  have d3 := Blk.cell hW.at_ 3 (v := .int .i64 t.pat) rfl
  have d4 := Blk.cell hW.at_ 4 (v := .int .i64 t.now) rfl
  have d5 := Blk.cell hW.at_ 5 (v := .int .i64 t.state) rfl
  have d6 := Blk.cell hW.at_ 6 (v := .int .i64 t.begun) rfl
  have d7 := Blk.cell hW.at_ 7 (v := .bool (kn t)) rfl
  have d8 := Blk.cell hW.at_ 8 (v := .int .i64 t.wake) rfl
  have d9 := Blk.cell hW.at_ 9 (v := .int .i64 t.last) rfl
  have dz5 := Blk.frozen hW.at_ 5
  rw [hst] at d5
  have e4 : ((2 : Int) == 4) = false := rfl
  have e3 : ((2 : Int) == 3) = false := rfl
  go_wp2_with (first | go_quiet (fail))
  all_goals (first | (refine bodyPost_ret (results_none rfl _ _ _) rfl ?_) | go_end0)
  first | exact ⟨rfl, hW.drewN _⟩ | exact ⟨rfl, (hW.drewN _).drewN _⟩ | exact ⟨rfl, ((hW.drewN _).drewN _).drewN _⟩

set_option maxHeartbeats 1000000 in
theorem rnext_b (m t : Aw.M) (htk : m.tick = t) (g : Nat) (w : World) (hm : RAt w g m) (hi : m.Inv) (hn : m.now < 1099511627775) (hs : Small t) (h2 : m.state = 2) (hst : t.state = 2) (hw : ¬ t.now < t.wake) (hx : ¬ t.last + t.pat < t.now) :
        Calls Try.prog 17 #[.pointer (some ⟨g, 0, none⟩)] w fun e w' => e = .returned (.tuple #[]) ∧ RTurned w w' g t.settle := by
  rw [settle2_sleep _ hst, s2_awaken _ hst hw, expire_no _ (by exact hx)]
  have hn1 := hi.n1
  have ht1 := hi.t1
  have ht2 := hi.t2
  have c4 := Blk.cell hm 4 (v := .int .i64 m.now) rfl
  have c5 := Blk.cell hm 5 (v := .int .i64 m.state) rfl
  have c10 := Blk.cell hm 10 (v := .int .i64 m.spent) rfl
  have z4 := Blk.frozen hm 4
  have z10 := Blk.frozen hm 10
  have n1 := hs.n1
  have n2 := hs.n2
  have b1 := hs.b1
  have b2 := hs.b2
  have w1 := hs.w1
  have w2 := hs.w2
  have p1 := hs.p1
  have p2 := hs.p2
  have x1 := hs.x1
  have x2 := hs.x2
  have HT := Lib.hid (show t = ⟨m.unit, m.guard, m.burst, m.pat, m.now + 1, m.state, m.begun, m.wake, m.last, m.spent, m.missed⟩ by rw [← htk]; unfold Aw.M.tick; rw [if_pos h2])
  have e2 : (m.state != 2) = false := by simpa using h2
  clear h2 htk
  go_enter Try.func17, Try.ntmps17
  go_wp2
  refine wp_gen (fun W => RTurned w W g t) (by rw [HT.out]; exact (RTurned.refl hm).tick0) ?_
  rintro W1 hW
  clear c4 c5 c10 z4 z10 e2 HT hn1 ht1 ht2 hi hn hm
  have d2 := Blk.cell hW.at_ 2 (v := .int .i64 t.burst) rfl
  have d3 := Blk.cell hW.at_ 3 (v := .int .i64 t.pat) rfl
  have d4 := Blk.cell hW.at_ 4 (v := .int .i64 t.now) rfl
  have d5 := Blk.cell hW.at_ 5 (v := .int .i64 t.state) rfl
  have d6 := Blk.cell hW.at_ 6 (v := .int .i64 t.begun) rfl
  have d7 := Blk.cell hW.at_ 7 (v := .bool (kn t)) rfl
  have d8 := Blk.cell hW.at_ 8 (v := .int .i64 t.wake) rfl
  have d9 := Blk.cell hW.at_ 9 (v := .int .i64 t.last) rfl
  have dz5 := Blk.frozen hW.at_ 5
  rw [hst] at d5
  have e4 : ((2 : Int) == 4) = false := rfl
  go_wp2_with (first | go_quiet (fail))
  all_goals (first | (refine bodyPost_ret (results_none rfl _ _ _) rfl ?_) | go_end0)
  exact ⟨rfl, ((hW.drewN _).state 3).drewN _⟩

set_option maxHeartbeats 1000000 in
theorem rnext_c (m t : Aw.M) (htk : m.tick = t) (g : Nat) (w : World) (hm : RAt w g m) (hi : m.Inv) (hn : m.now < 1099511627775) (hs : Small t) (h2 : m.state = 2) (hst : t.state = 2) (hw : ¬ t.now < t.wake) (hx : t.last + t.pat < t.now) :
        Calls Try.prog 17 #[.pointer (some ⟨g, 0, none⟩)] w fun e w' => e = .returned (.tuple #[]) ∧ RTurned w w' g t.settle := by
  rw [settle2_sleep _ hst, s2_awaken _ hst hw, expire_yes _ (by exact hx)]
  have hn1 := hi.n1
  have ht1 := hi.t1
  have ht2 := hi.t2
  have c4 := Blk.cell hm 4 (v := .int .i64 m.now) rfl
  have c5 := Blk.cell hm 5 (v := .int .i64 m.state) rfl
  have c10 := Blk.cell hm 10 (v := .int .i64 m.spent) rfl
  have z4 := Blk.frozen hm 4
  have z10 := Blk.frozen hm 10
  have n1 := hs.n1
  have n2 := hs.n2
  have b1 := hs.b1
  have b2 := hs.b2
  have w1 := hs.w1
  have w2 := hs.w2
  have p1 := hs.p1
  have p2 := hs.p2
  have x1 := hs.x1
  have x2 := hs.x2
  have HT := Lib.hid (show t = ⟨m.unit, m.guard, m.burst, m.pat, m.now + 1, m.state, m.begun, m.wake, m.last, m.spent, m.missed⟩ by rw [← htk]; unfold Aw.M.tick; rw [if_pos h2])
  have e2 : (m.state != 2) = false := by simpa using h2
  clear h2 htk
  go_enter Try.func17, Try.ntmps17
  go_wp2
  refine wp_gen (fun W => RTurned w W g t) (by rw [HT.out]; exact (RTurned.refl hm).tick0) ?_
  rintro W1 hW
  clear c4 c5 c10 z4 z10 e2 HT hn1 ht1 ht2 hi hn hm
  have d2 := Blk.cell hW.at_ 2 (v := .int .i64 t.burst) rfl
  have d3 := Blk.cell hW.at_ 3 (v := .int .i64 t.pat) rfl
  have d4 := Blk.cell hW.at_ 4 (v := .int .i64 t.now) rfl
  have d5 := Blk.cell hW.at_ 5 (v := .int .i64 t.state) rfl
  have d6 := Blk.cell hW.at_ 6 (v := .int .i64 t.begun) rfl
  have d7 := Blk.cell hW.at_ 7 (v := .bool (kn t)) rfl
  have d8 := Blk.cell hW.at_ 8 (v := .int .i64 t.wake) rfl
  have d9 := Blk.cell hW.at_ 9 (v := .int .i64 t.last) rfl
  have dz5 := Blk.frozen hW.at_ 5
  rw [hst] at d5
  have e4 : ((2 : Int) == 4) = false := rfl
  go_wp2_with (first | go_quiet (fail))
  have h1 := fun a b => ((hW.drewN a).state 3).drewN b
  (with_reducible refine (forget_any (t.setState 3) g _ (h1 _ _).at_).mono ?_); rintro e w1 ⟨rfl, ht⟩
  have h3 := (h1 _ _).trans ht
  have d11 := Blk.cell ht.1 11 (v := .int .i64 t.missed) rfl
  have y11 := Blk.frozen ht.1 11
  go_wp2
  all_goals (first | (refine bodyPost_ret (results_none rfl _ _ _) rfl ?_) | go_end0)
  exact ⟨rfl, h3.miss⟩

set_option maxHeartbeats 1000000 in
theorem rnext_d (m t : Aw.M) (htk : m.tick = t) (g : Nat) (w : World) (hm : RAt w g m) (hi : m.Inv) (hn : m.now < 1099511627775) (hs : Small t) (h2 : ¬ m.state = 2) (hst : t.state = 3) (hx : ¬ t.last + t.pat < t.now) :
        Calls Try.prog 17 #[.pointer (some ⟨g, 0, none⟩)] w fun e w' => e = .returned (.tuple #[]) ∧ RTurned w w' g t.settle := by
  rw [settle2_wait _ hst, s2_wait _ hst, expire_no _ (by exact hx)]
  have hn1 := hi.n1
  have ht1 := hi.t1
  have ht2 := hi.t2
  have c4 := Blk.cell hm 4 (v := .int .i64 m.now) rfl
  have c5 := Blk.cell hm 5 (v := .int .i64 m.state) rfl
  have c10 := Blk.cell hm 10 (v := .int .i64 m.spent) rfl
  have z4 := Blk.frozen hm 4
  have z10 := Blk.frozen hm 10
  have n1 := hs.n1
  have n2 := hs.n2
  have b1 := hs.b1
  have b2 := hs.b2
  have w1 := hs.w1
  have w2 := hs.w2
  have p1 := hs.p1
  have p2 := hs.p2
  have x1 := hs.x1
  have x2 := hs.x2
  have HT := Lib.hid (show t = ⟨m.unit, m.guard, m.burst, m.pat, m.now + 1, m.state, m.begun, m.wake, m.last, m.spent + 1, m.missed⟩ by rw [← htk]; unfold Aw.M.tick; rw [if_neg h2])
  have e2 : (m.state != 2) = true := by simpa using h2
  clear h2 htk
  go_enter Try.func17, Try.ntmps17
  go_wp2
  refine wp_gen (fun W => RTurned w W g t) (by rw [HT.out]; exact (RTurned.refl hm).tick _) ?_
  rintro W1 hW
  clear c4 c5 c10 z4 z10 e2 HT hn1 ht1 ht2 hi hn hm
  have d2 := Blk.cell hW.at_ 2 (v := .int .i64 t.burst) rfl
  have d3 := Blk.cell hW.at_ 3 (v := .int .i64 t.pat) rfl
  have d4 := Blk.cell hW.at_ 4 (v := .int .i64 t.now) rfl
  have d5 := Blk.cell hW.at_ 5 (v := .int .i64 t.state) rfl
  have d6 := Blk.cell hW.at_ 6 (v := .int .i64 t.begun) rfl
  have d7 := Blk.cell hW.at_ 7 (v := .bool (kn t)) rfl
  have d8 := Blk.cell hW.at_ 8 (v := .int .i64 t.wake) rfl
  have d9 := Blk.cell hW.at_ 9 (v := .int .i64 t.last) rfl
  have dz5 := Blk.frozen hW.at_ 5
  rw [hst] at d5
  have e4 : ((3 : Int) == 4) = false := rfl
  have e3 : ((3 : Int) == 2) = false := rfl
  go_wp2_with (first | go_quiet (fail))
  all_goals (first | (refine bodyPost_ret (results_none rfl _ _ _) rfl ?_) | go_end0)
  first | exact ⟨rfl, hW.drewN _⟩ | exact ⟨rfl, (hW.drewN _).drewN _⟩ | exact ⟨rfl, ((hW.drewN _).drewN _).drewN _⟩

set_option maxHeartbeats 1000000 in
theorem rnext_e (m t : Aw.M) (htk : m.tick = t) (g : Nat) (w : World) (hm : RAt w g m) (hi : m.Inv) (hn : m.now < 1099511627775) (hs : Small t) (h2 : ¬ m.state = 2) (hst : t.state = 3) (hx : t.last + t.pat < t.now) :
        Calls Try.prog 17 #[.pointer (some ⟨g, 0, none⟩)] w fun e w' => e = .returned (.tuple #[]) ∧ RTurned w w' g t.settle := by
  rw [settle2_wait _ hst, s2_wait _ hst, expire_yes _ (by exact hx)]
  have hn1 := hi.n1
  have ht1 := hi.t1
  have ht2 := hi.t2
  have c4 := Blk.cell hm 4 (v := .int .i64 m.now) rfl
  have c5 := Blk.cell hm 5 (v := .int .i64 m.state) rfl
  have c10 := Blk.cell hm 10 (v := .int .i64 m.spent) rfl
  have z4 := Blk.frozen hm 4
  have z10 := Blk.frozen hm 10
  have n1 := hs.n1
  have n2 := hs.n2
  have b1 := hs.b1
  have b2 := hs.b2
  have w1 := hs.w1
  have w2 := hs.w2
  have p1 := hs.p1
  have p2 := hs.p2
  have x1 := hs.x1
  have x2 := hs.x2
  have HT := Lib.hid (show t = ⟨m.unit, m.guard, m.burst, m.pat, m.now + 1, m.state, m.begun, m.wake, m.last, m.spent + 1, m.missed⟩ by rw [← htk]; unfold Aw.M.tick; rw [if_neg h2])
  have e2 : (m.state != 2) = true := by simpa using h2
  clear h2 htk
  go_enter Try.func17, Try.ntmps17
  go_wp2
  refine wp_gen (fun W => RTurned w W g t) (by rw [HT.out]; exact (RTurned.refl hm).tick _) ?_
  rintro W1 hW
  clear c4 c5 c10 z4 z10 e2 HT hn1 ht1 ht2 hi hn hm
  have d2 := Blk.cell hW.at_ 2 (v := .int .i64 t.burst) rfl
  have d3 := Blk.cell hW.at_ 3 (v := .int .i64 t.pat) rfl
  have d4 := Blk.cell hW.at_ 4 (v := .int .i64 t.now) rfl
  have d5 := Blk.cell hW.at_ 5 (v := .int .i64 t.state) rfl
  have d6 := Blk.cell hW.at_ 6 (v := .int .i64 t.begun) rfl
  have d7 := Blk.cell hW.at_ 7 (v := .bool (kn t)) rfl
  have d8 := Blk.cell hW.at_ 8 (v := .int .i64 t.wake) rfl
  have d9 := Blk.cell hW.at_ 9 (v := .int .i64 t.last) rfl
  have dz5 := Blk.frozen hW.at_ 5
  rw [hst] at d5
  have e4 : ((3 : Int) == 4) = false := rfl
  have e3 : ((3 : Int) == 2) = false := rfl
  go_wp2_with (first | go_quiet (fail))
  have h1 := fun a => hW.drewN a
  (with_reducible refine (forget_any t g _ (h1 _).at_).mono ?_); rintro e w1 ⟨rfl, ht⟩
  have h3 := (h1 _).trans ht
  have d11 := Blk.cell ht.1 11 (v := .int .i64 t.missed) rfl
  have y11 := Blk.frozen ht.1 11
  go_wp2
  all_goals (first | (refine bodyPost_ret (results_none rfl _ _ _) rfl ?_) | go_end0)
  exact ⟨rfl, h3.miss⟩

set_option maxHeartbeats 1000000 in
theorem rnext_f (m t : Aw.M) (htk : m.tick = t) (g : Nat) (w : World) (hm : RAt w g m) (hi : m.Inv) (hn : m.now < 1099511627775) (hs : Small t) (h2 : ¬ m.state = 2) (k2 : ¬ t.state = 2) (k3 : ¬ t.state = 3) (k4 : ¬ t.state = 4) :
        Calls Try.prog 17 #[.pointer (some ⟨g, 0, none⟩)] w fun e w' => e = .returned (.tuple #[]) ∧ RTurned w w' g t.settle := by
  rw [show t.settle = t.settle2 by unfold Aw.M.settle; rw [if_neg (fun h => k4 h.1)], s2_else _ k2 k3]
  have hn1 := hi.n1
  have ht1 := hi.t1
  have ht2 := hi.t2
  have c4 := Blk.cell hm 4 (v := .int .i64 m.now) rfl
  have c5 := Blk.cell hm 5 (v := .int .i64 m.state) rfl
  have c10 := Blk.cell hm 10 (v := .int .i64 m.spent) rfl
  have z4 := Blk.frozen hm 4
  have z10 := Blk.frozen hm 10
  have n1 := hs.n1
  have n2 := hs.n2
  have b1 := hs.b1
  have b2 := hs.b2
  have w1 := hs.w1
  have w2 := hs.w2
  have p1 := hs.p1
  have p2 := hs.p2
  have x1 := hs.x1
  have x2 := hs.x2
  have HT := Lib.hid (show t = ⟨m.unit, m.guard, m.burst, m.pat, m.now + 1, m.state, m.begun, m.wake, m.last, m.spent + 1, m.missed⟩ by rw [← htk]; unfold Aw.M.tick; rw [if_neg h2])
  have e2 : (m.state != 2) = true := by simpa using h2
  clear h2 htk
  go_enter Try.func17, Try.ntmps17
  go_wp2
  refine wp_gen (fun W => RTurned w W g t) (by rw [HT.out]; exact (RTurned.refl hm).tick _) ?_
  rintro W1 hW
  clear c4 c5 c10 z4 z10 e2 HT hn1 ht1 ht2 hi hn hm
  have d2 := Blk.cell hW.at_ 2 (v := .int .i64 t.burst) rfl
  have d3 := Blk.cell hW.at_ 3 (v := .int .i64 t.pat) rfl
  have d4 := Blk.cell hW.at_ 4 (v := .int .i64 t.now) rfl
  have d5 := Blk.cell hW.at_ 5 (v := .int .i64 t.state) rfl
  have d6 := Blk.cell hW.at_ 6 (v := .int .i64 t.begun) rfl
  have d7 := Blk.cell hW.at_ 7 (v := .bool (kn t)) rfl
  have d8 := Blk.cell hW.at_ 8 (v := .int .i64 t.wake) rfl
  have d9 := Blk.cell hW.at_ 9 (v := .int .i64 t.last) rfl
  have dz5 := Blk.frozen hW.at_ 5
  have e2 : (t.state == 2) = false := by simpa using k2
  have e3 : (t.state == 3) = false := by simpa using k3
  have e4 : (t.state == 4) = false := by simpa using k4
  clear k2 k3 k4
  go_wp2_with (first | go_quiet (fail))
  all_goals (first | (refine bodyPost_ret (results_none rfl _ _ _) rfl ?_) | go_end0)
  first | exact ⟨rfl, hW.drewN _⟩ | exact ⟨rfl, (hW.drewN _).drewN _⟩ | exact ⟨rfl, ((hW.drewN _).drewN _).drewN _⟩

set_option maxHeartbeats 1000000 in
theorem rnext_g (m t : Aw.M) (htk : m.tick = t) (g : Nat) (w : World) (hm : RAt w g m) (hi : m.Inv) (hn : m.now < 1099511627775) (hs : Small t) (h2 : ¬ m.state = 2) (hst : t.state = 4) (hb : ¬ t.burst ≤ t.now - t.begun) :
        Calls Try.prog 17 #[.pointer (some ⟨g, 0, none⟩)] w fun e w' => e = .returned (.tuple #[]) ∧ RTurned w w' g t.settle := by
  rw [settle2_early _ hb, s2_else _ (by omega) (by omega)]
  have hn1 := hi.n1
  have ht1 := hi.t1
  have ht2 := hi.t2
  have c4 := Blk.cell hm 4 (v := .int .i64 m.now) rfl
  have c5 := Blk.cell hm 5 (v := .int .i64 m.state) rfl
  have c10 := Blk.cell hm 10 (v := .int .i64 m.spent) rfl
  have z4 := Blk.frozen hm 4
  have z10 := Blk.frozen hm 10
  have n1 := hs.n1
  have n2 := hs.n2
  have b1 := hs.b1
  have b2 := hs.b2
  have w1 := hs.w1
  have w2 := hs.w2
  have p1 := hs.p1
  have p2 := hs.p2
  have x1 := hs.x1
  have x2 := hs.x2
  have HT := Lib.hid (show t = ⟨m.unit, m.guard, m.burst, m.pat, m.now + 1, m.state, m.begun, m.wake, m.last, m.spent + 1, m.missed⟩ by rw [← htk]; unfold Aw.M.tick; rw [if_neg h2])
  have e2 : (m.state != 2) = true := by simpa using h2
  clear h2 htk
  go_enter Try.func17, Try.ntmps17
  go_wp2
  refine wp_gen (fun W => RTurned w W g t) (by rw [HT.out]; exact (RTurned.refl hm).tick _) ?_
  rintro W1 hW
  clear c4 c5 c10 z4 z10 e2 HT hn1 ht1 ht2 hi hn hm
  have d2 := Blk.cell hW.at_ 2 (v := .int .i64 t.burst) rfl
  have d3 := Blk.cell hW.at_ 3 (v := .int .i64 t.pat) rfl
  have d4 := Blk.cell hW.at_ 4 (v := .int .i64 t.now) rfl
  have d5 := Blk.cell hW.at_ 5 (v := .int .i64 t.state) rfl
  have d6 := Blk.cell hW.at_ 6 (v := .int .i64 t.begun) rfl
  have d7 := Blk.cell hW.at_ 7 (v := .bool (kn t)) rfl
  have d8 := Blk.cell hW.at_ 8 (v := .int .i64 t.wake) rfl
  have d9 := Blk.cell hW.at_ 9 (v := .int .i64 t.last) rfl
  have dz5 := Blk.frozen hW.at_ 5
  rw [hst] at d5
  have e4 : ((4 : Int) == 4) = true := rfl
  have e3 : ((4 : Int) == 3) = false := rfl
  have e2 : ((4 : Int) == 2) = false := rfl
  have hb' : decide (t.burst ≤ t.now - t.begun) = false := by simpa using hb
  clear hb
  go_wp2_with (first | go_quiet (fail))
  all_goals (first | (refine bodyPost_ret (results_none rfl _ _ _) rfl ?_) | go_end0)
  first | exact ⟨rfl, hW.drewN _⟩ | exact ⟨rfl, (hW.drewN _).drewN _⟩ | exact ⟨rfl, ((hW.drewN _).drewN _).drewN _⟩
end Go.Proofs.Ytknjnpagbpjlkaa.AwR
