/- Walks over layer 21: the machine's methods. -/
import Derived.Test.YtknjnpagbpjlkaaChecked
import Derived.Test.YtknjnpagbpjlkaaAwSpec
import Derived.Test.YtknjnpagbpjlkaaAwA
import Derived.Test.YtknjnpagbpjlkaaMem
import Derived.WalkKit
import Derived.WalkSpells
import Derived.WalkLawsBesides
import Derived.Deep.QuietTactic
import Derived.BigQuiet
import Derived.Deep.Light
import Derived.StillTailTactics
namespace Go.Proofs.Ytknjnpagbpjlkaa.AwB
open Go.RowKit Go.Proofs.Ytknjnpagbpjlkaa.Mem Go.Proofs.Ytknjnpagbpjlkaa.AwA

def cells (m : Aw.M) : Array Value := #[.int .i64 m.unit, .int .i64 m.guard, .int .i64 m.burst, .int .i64 m.pat, .int .i64 m.now, .int .i64 m.state, .int .i64 m.begun, .int .i64 m.wake, .int .i64 m.last, .int .i64 m.spent, .int .i64 m.missed]
/-- the machine lies in block g -/
def At (w : World) (g : Nat) (m : Aw.M) : Prop := Blk w g 60 (cells m)

theorem ret_none {a : Array Value} : Ending.returned (.tuple a) = Ending.returned (.tuple a) := rfl


theorem awake_nil (w : World) : Calls Try.prog 24 #[.pointer none] w fun e w' => e = .returned (.bool false) ∧ w = w' := by
  go_enter Try.func24, Try.ntmps24
  go_wp2
  go_ret
  exact ⟨rfl, rfl⟩

theorem awake_any (m : Aw.M) (g : Nat) (w : World) (hm : At w g m) : Calls Try.prog 24 #[.pointer (some ⟨g, 0, none⟩)] w fun e w' => e = .returned (.bool (m.state != 2)) ∧ w = w' := by
  have c5 := Blk.cell hm 5 (v := .int .i64 m.state) rfl
  go_enter Try.func24, Try.ntmps24
  go_wp2
  all_goals go_ret
  all_goals exact ⟨rfl, rfl⟩

theorem reset_nil (w : World) : Calls Try.prog 21 #[.pointer none] w fun e w' => e = .returned (.tuple #[]) ∧ w = w' := by
  go_enter Try.func21, Try.ntmps21
  go_wp2
  go_end0
  exact ⟨rfl, rfl⟩

/-- only the machine has turned, into m -/
structure Turned (w w' : World) (g : Nat) (m : Aw.M) : Prop where
  at_ : At w' g m
  only : w.grownBy w' (some g)
theorem Turned.trans {a b c : World} {g : Nat} {m m' : Aw.M} (h : Turned a b g m) (k : Turned b c g m') : Turned a c g m' := ⟨k.1, only_trans h.2 k.2⟩

theorem reset_any (m : Aw.M) (g : Nat) (w : World) (hm : At w g m) : Calls Try.prog 21 #[.pointer (some ⟨g, 0, none⟩)] w fun e w' => e = .returned (.tuple #[]) ∧ Turned w w' g m.reset := by
  have c0 := Blk.cell hm 0 (v := .int .i64 m.unit) rfl
  have c1 := Blk.cell hm 1 (v := .int .i64 m.guard) rfl
  have c2 := Blk.cell hm 2 (v := .int .i64 m.burst) rfl
  have c3 := Blk.cell hm 3 (v := .int .i64 m.pat) rfl
  have c4 := Blk.cell hm 4 (v := .int .i64 m.now) rfl
  have c5 := Blk.cell hm 5 (v := .int .i64 m.state) rfl
  have c6 := Blk.cell hm 6 (v := .int .i64 m.begun) rfl
  have c7 := Blk.cell hm 7 (v := .int .i64 m.wake) rfl
  have c8 := Blk.cell hm 8 (v := .int .i64 m.last) rfl
  have c9 := Blk.cell hm 9 (v := .int .i64 m.spent) rfl
  have c10 := Blk.cell hm 10 (v := .int .i64 m.missed) rfl
  have z5 := Blk.frozen hm 5
  have z7 := Blk.frozen hm 7
  have z8 := Blk.frozen hm 8
  go_enter Try.func21, Try.ntmps21
  go_wp2
  go_end0
  refine ⟨rfl, ?_, ?_⟩
  · exact ((hm.set_ 5 (.int .i64 1)).set_ 7 (.int .i64 0)).set_ 8 (.int .i64 0)
  · exact only_set (only_set (only_set (only_refl _ _) _ _) _ _) _ _


theorem rest_yes (m : Aw.M) (h : m.wake = 0) (h' : m.last = 0) : m.rest = m.reset := by simp [Aw.M.rest, h, h']
theorem rest_no1 (m : Aw.M) (h : ¬ m.wake = 0) : m.rest = m.setState 2 := by simp [Aw.M.rest, h]
theorem rest_no2 (m : Aw.M) (h : ¬ m.last = 0) : m.rest = m.setState 2 := by simp [Aw.M.rest, h]
theorem turned_state (m : Aw.M) (g : Nat) (w : World) (hm : At w g m) (s : Int) : Turned w (w.setCell ⟨g, 5, none⟩ (.int .i64 s)) g (m.setState s) :=
  ⟨hm.set_ 5 (.int .i64 s), only_set (only_refl _ _) _ _⟩

theorem rest_any (m : Aw.M) (g : Nat) (w : World) (hm : At w g m) : Calls Try.prog 31 #[.pointer (some ⟨g, 0, none⟩)] w fun e w' => e = .returned (.tuple #[]) ∧ Turned w w' g m.rest := by
  have c0 := Blk.cell hm 0 (v := .int .i64 m.unit) rfl
  have c1 := Blk.cell hm 1 (v := .int .i64 m.guard) rfl
  have c2 := Blk.cell hm 2 (v := .int .i64 m.burst) rfl
  have c3 := Blk.cell hm 3 (v := .int .i64 m.pat) rfl
  have c4 := Blk.cell hm 4 (v := .int .i64 m.now) rfl
  have c5 := Blk.cell hm 5 (v := .int .i64 m.state) rfl
  have c6 := Blk.cell hm 6 (v := .int .i64 m.begun) rfl
  have c7 := Blk.cell hm 7 (v := .int .i64 m.wake) rfl
  have c8 := Blk.cell hm 8 (v := .int .i64 m.last) rfl
  have c9 := Blk.cell hm 9 (v := .int .i64 m.spent) rfl
  have c10 := Blk.cell hm 10 (v := .int .i64 m.missed) rfl
  have z5 := Blk.frozen hm 5
  have z7 := Blk.frozen hm 7
  have z8 := Blk.frozen hm 8
  go_enter Try.func31, Try.ntmps31
  go_wp2_with (go_at_call 21; (with_reducible refine (reset_any m g _ hm).mono ?_); rintro e w' ⟨rfl, ht⟩)
  all_goals (first | (refine bodyPost_ret (results_none rfl _ _ _) rfl ?_) | go_end0)
  · exact ⟨rfl, by rw [rest_yes m (by assumption) (by assumption)]; exact ht⟩
  · exact ⟨rfl, by rw [rest_no2 m (by assumption)]; exact turned_state m g w hm 2⟩
  · exact ⟨rfl, by rw [rest_no1 m (by assumption)]; exact turned_state m g w hm 2⟩

/-- the bounds under which settling wraps nowhere -/
structure Small (m : Aw.M) : Prop where
  n1 : 0 ≤ m.now
  n2 : m.now ≤ 2199023255552
  b1 : 0 ≤ m.begun
  b2 : m.begun ≤ 2199023255552
  w1 : 0 ≤ m.last
  w2 : m.last ≤ 4398046511104
  p1 : 0 ≤ m.pat
  p2 : m.pat ≤ 1048576
  x1 : 0 ≤ m.missed
  x2 : m.missed ≤ 4398046511104

theorem Turned.refl {w : World} {g : Nat} {m : Aw.M} (hm : At w g m) : Turned w w g m := ⟨hm, only_refl _ _⟩
theorem Turned.drewN {w w' : World} {g : Nat} {m : Aw.M} (h : Turned w w' g m) (n : Nat) : Turned w (w'.drewN n) g m := ⟨h.1, only_drewN h.2 n⟩
theorem Turned.state {w w' : World} {g : Nat} {m : Aw.M} (h : Turned w w' g m) (s : Int) : Turned w (w'.setCell ⟨g, 5, none⟩ (.int .i64 s)) g (m.setState s) :=
  h.trans (turned_state m g w' h.1 s)
theorem Turned.miss {w w' : World} {g : Nat} {m : Aw.M} (h : Turned w w' g m) : Turned w (w'.setCell ⟨g, 10, none⟩ (.int .i64 (m.missed + 1))) g ⟨m.unit, m.guard, m.burst, m.pat, m.now, m.state, m.begun, m.wake, m.last, m.spent, m.missed + 1⟩ :=
  h.trans ⟨Blk.set_ h.1 10 _, only_set (only_refl _ _) _ _⟩

theorem At.drewN {w : World} {g : Nat} {m : Aw.M} (h : At w g m) (n : Nat) : At (w.drewN n) g m := h

theorem settle2_sleep (m : Aw.M) (h2 : m.state = 2) : m.settle = m.settle2 := by simp [Aw.M.settle, h2]
theorem settle2_wait (m : Aw.M) (h2 : m.state = 3) : m.settle = m.settle2 := by simp [Aw.M.settle, h2]
theorem settle2_early (m : Aw.M) (h : ¬ m.burst ≤ m.now - m.begun) : m.settle = m.settle2 := by simp [Aw.M.settle, h]
theorem settle2_over (m : Aw.M) (h4 : m.state = 4) (h : m.burst ≤ m.now - m.begun) : m.settle = m.rest.settle2 := by simp [Aw.M.settle, h4, h]
theorem s2_asleep (m : Aw.M) (h2 : m.state = 2) (h : m.now < m.wake) : m.settle2 = m := by simp [Aw.M.settle2, h2, h]
theorem s2_awaken (m : Aw.M) (h2 : m.state = 2) (h : ¬ m.now < m.wake) : m.settle2 = (m.setState 3).expire := by simp [Aw.M.settle2, h2, h]
theorem s2_wait (m : Aw.M) (h2 : m.state = 3) : m.settle2 = m.expire := by simp [Aw.M.settle2, h2]
theorem s2_else (m : Aw.M) (h2 : ¬ m.state = 2) (h3 : ¬ m.state = 3) : m.settle2 = m := by simp [Aw.M.settle2, h2, h3]
theorem expire_no (m : Aw.M) (h : ¬ m.last + m.pat < m.now) : m.expire = m := by simp [Aw.M.expire, h]
theorem expire_yes (m : Aw.M) (h : m.last + m.pat < m.now) : m.expire = ⟨m.reset.unit, m.reset.guard, m.reset.burst, m.reset.pat, m.reset.now, m.reset.state, m.reset.begun, m.reset.wake, m.reset.last, m.reset.spent, m.reset.missed + 1⟩ := by simp [Aw.M.expire, h, Aw.M.reset]

set_option maxHeartbeats 400000 in
/-- the second half of settling, in the state Sleep -/
theorem settle_sleep (m : Aw.M) (g : Nat) (w : World) (hm : At w g m) (hs : Small m) (h2 : m.state = 2) :
    Calls Try.prog 26 #[.pointer (some ⟨g, 0, none⟩)] w fun e w' => e = .returned (.tuple #[]) ∧ Turned w w' g m.settle := by
  obtain ⟨n1, n2, b1, b2, w1, w2, p1, p2, x1, x2⟩ := hs
  have c0 := Blk.cell hm 0 (v := .int .i64 m.unit) rfl
  have c1 := Blk.cell hm 1 (v := .int .i64 m.guard) rfl
  have c2 := Blk.cell hm 2 (v := .int .i64 m.burst) rfl
  have c3 := Blk.cell hm 3 (v := .int .i64 m.pat) rfl
  have c4 := Blk.cell hm 4 (v := .int .i64 m.now) rfl
  have c5 := Blk.cell hm 5 (v := .int .i64 m.state) rfl
  have c6 := Blk.cell hm 6 (v := .int .i64 m.begun) rfl
  have c7 := Blk.cell hm 7 (v := .int .i64 m.wake) rfl
  have c8 := Blk.cell hm 8 (v := .int .i64 m.last) rfl
  have c9 := Blk.cell hm 9 (v := .int .i64 m.spent) rfl
  have c10 := Blk.cell hm 10 (v := .int .i64 m.missed) rfl
  have z5 := Blk.frozen hm 5
  have z7 := Blk.frozen hm 7
  have z8 := Blk.frozen hm 8
  rw [settle2_sleep m h2]
  rw [h2] at c5
  have e4 : ((2 : Int) == 4) = false := rfl
  by_cases hw : m.now < m.wake
  · rw [s2_asleep m h2 hw]
    clear h2
    go_enter Try.func26, Try.ntmps26
    go_wp2_with (first | go_quiet (fail))
    all_goals (first | (refine bodyPost_ret (results_none rfl _ _ _) rfl ?_) | go_end0)
    exact ⟨rfl, ((Turned.refl hm).drewN _).drewN _⟩
  · rw [s2_awaken m h2 hw]
    clear h2
    by_cases hx : m.last + m.pat < m.now
    · rw [expire_yes _ (by exact hx)]
      go_enter Try.func26, Try.ntmps26
      go_wp2_with (first | go_quiet (fail))
      have h1 := fun a b => (((Turned.refl hm).drewN a).state 3).drewN b
      (with_reducible refine (reset_any (m.setState 3) g _ (h1 _ _).1).mono ?_); rintro e w1 ⟨rfl, ht⟩
      have h3 := (h1 _ _).trans ht
      have d10 := Blk.cell ht.1 10 (v := .int .i64 m.missed) rfl
      have y10 := Blk.frozen ht.1 10
      go_wp2
      all_goals (first | (refine bodyPost_ret (results_none rfl _ _ _) rfl ?_) | go_end0)
      exact ⟨rfl, h3.miss⟩
    · rw [expire_no _ (by exact hx)]
      go_enter Try.func26, Try.ntmps26
      go_wp2_with (first | go_quiet (fail))
      all_goals (first | (refine bodyPost_ret (results_none rfl _ _ _) rfl ?_) | go_end0)
      exact ⟨rfl, (((Turned.refl hm).drewN _).state 3).drewN _⟩

set_option maxHeartbeats 400000 in
theorem settle_wait (m : Aw.M) (g : Nat) (w : World) (hm : At w g m) (hs : Small m) (h2 : m.state = 3) :
    Calls Try.prog 26 #[.pointer (some ⟨g, 0, none⟩)] w fun e w' => e = .returned (.tuple #[]) ∧ Turned w w' g m.settle := by
  obtain ⟨n1, n2, b1, b2, w1, w2, p1, p2, x1, x2⟩ := hs
  have c0 := Blk.cell hm 0 (v := .int .i64 m.unit) rfl
  have c1 := Blk.cell hm 1 (v := .int .i64 m.guard) rfl
  have c2 := Blk.cell hm 2 (v := .int .i64 m.burst) rfl
  have c3 := Blk.cell hm 3 (v := .int .i64 m.pat) rfl
  have c4 := Blk.cell hm 4 (v := .int .i64 m.now) rfl
  have c5 := Blk.cell hm 5 (v := .int .i64 m.state) rfl
  have c6 := Blk.cell hm 6 (v := .int .i64 m.begun) rfl
  have c7 := Blk.cell hm 7 (v := .int .i64 m.wake) rfl
  have c8 := Blk.cell hm 8 (v := .int .i64 m.last) rfl
  have c9 := Blk.cell hm 9 (v := .int .i64 m.spent) rfl
  have c10 := Blk.cell hm 10 (v := .int .i64 m.missed) rfl
  have z5 := Blk.frozen hm 5
  have z7 := Blk.frozen hm 7
  have z8 := Blk.frozen hm 8
  rw [settle2_wait m h2, s2_wait m h2]
  rw [h2] at c5
  have e4 : ((3 : Int) == 4) = false := rfl
  clear h2
  by_cases hx : m.last + m.pat < m.now
  · rw [expire_yes _ (by exact hx)]
    go_enter Try.func26, Try.ntmps26
    go_wp2_with (first | go_quiet (fail))
    have h1 := fun a => (Turned.refl hm).drewN a
    (with_reducible refine (reset_any m g _ (h1 _).at_).mono ?_); rintro e w1 ⟨rfl, ht⟩
    have h3 := (h1 _).trans ht
    have d10 := Blk.cell ht.1 10 (v := .int .i64 m.missed) rfl
    have y10 := Blk.frozen ht.1 10
    go_wp2
    all_goals (first | (refine bodyPost_ret (results_none rfl _ _ _) rfl ?_) | go_end0)
    exact ⟨rfl, h3.miss⟩
  · rw [expire_no _ (by exact hx)]
    go_enter Try.func26, Try.ntmps26
    go_wp2_with (first | go_quiet (fail))
    all_goals (first | (refine bodyPost_ret (results_none rfl _ _ _) rfl ?_) | go_end0)
    exact ⟨rfl, (Turned.refl hm).drewN _⟩

set_option maxHeartbeats 400000 in
/-- nothing is to be settled -/
theorem settle_else (m : Aw.M) (g : Nat) (w : World) (hm : At w g m) (hs : Small m) (h2 : ¬ m.state = 2) (h3 : ¬ m.state = 3) (h4 : ¬ (m.state = 4 ∧ m.burst ≤ m.now - m.begun)) :
    Calls Try.prog 26 #[.pointer (some ⟨g, 0, none⟩)] w fun e w' => e = .returned (.tuple #[]) ∧ Turned w w' g m.settle := by
  obtain ⟨n1, n2, b1, b2, w1, w2, p1, p2, x1, x2⟩ := hs
  have c0 := Blk.cell hm 0 (v := .int .i64 m.unit) rfl
  have c1 := Blk.cell hm 1 (v := .int .i64 m.guard) rfl
  have c2 := Blk.cell hm 2 (v := .int .i64 m.burst) rfl
  have c3 := Blk.cell hm 3 (v := .int .i64 m.pat) rfl
  have c4 := Blk.cell hm 4 (v := .int .i64 m.now) rfl
  have c5 := Blk.cell hm 5 (v := .int .i64 m.state) rfl
  have c6 := Blk.cell hm 6 (v := .int .i64 m.begun) rfl
  have c7 := Blk.cell hm 7 (v := .int .i64 m.wake) rfl
  have c8 := Blk.cell hm 8 (v := .int .i64 m.last) rfl
  have c9 := Blk.cell hm 9 (v := .int .i64 m.spent) rfl
  have c10 := Blk.cell hm 10 (v := .int .i64 m.missed) rfl
  have z5 := Blk.frozen hm 5
  have z7 := Blk.frozen hm 7
  have z8 := Blk.frozen hm 8
  have e : m.settle = m := by
    have : m.settle = m.settle2 := by unfold Aw.M.settle; rw [if_neg h4]
    rw [this, s2_else m h2 h3]
  rw [e]
  clear e
  have e2 : (m.state == 2) = false := by simpa using h2
  have e3 : (m.state == 3) = false := by simpa using h3
  by_cases h : m.state = 4
  · have hb : ¬ m.burst ≤ m.now - m.begun := fun hb => h4 ⟨h, hb⟩
    have hb' : decide (m.burst ≤ m.now - m.begun) = false := by simpa using hb
    have e4 : (m.state == 4) = true := by simpa using h
    clear h4 h h2 h3
    go_enter Try.func26, Try.ntmps26
    go_wp2_with (first | go_quiet (fail))
    all_goals (first | (refine bodyPost_ret (results_none rfl _ _ _) rfl ?_) | go_end0)
    exact ⟨rfl, (Turned.refl hm).drewN _⟩
  · have e4 : (m.state == 4) = false := by simpa using h
    clear h4 h h2 h3
    go_enter Try.func26, Try.ntmps26
    go_wp2_with (first | go_quiet (fail))
    all_goals (first | (refine bodyPost_ret (results_none rfl _ _ _) rfl ?_) | go_end0)
    exact ⟨rfl, (Turned.refl hm).drewN _⟩

set_option maxHeartbeats 400000 in
/-- the burst is at its end, and nothing is known -/
theorem settle_over1 (m : Aw.M) (g : Nat) (w : World) (hm : At w g m) (hs : Small m) (h4 : m.state = 4) (hb : m.burst ≤ m.now - m.begun) (hk : m.wake = 0 ∧ m.last = 0) :
    Calls Try.prog 26 #[.pointer (some ⟨g, 0, none⟩)] w fun e w' => e = .returned (.tuple #[]) ∧ Turned w w' g m.settle := by
  obtain ⟨n1, n2, b1, b2, w1, w2, p1, p2, x1, x2⟩ := hs
  have c0 := Blk.cell hm 0 (v := .int .i64 m.unit) rfl
  have c1 := Blk.cell hm 1 (v := .int .i64 m.guard) rfl
  have c2 := Blk.cell hm 2 (v := .int .i64 m.burst) rfl
  have c3 := Blk.cell hm 3 (v := .int .i64 m.pat) rfl
  have c4 := Blk.cell hm 4 (v := .int .i64 m.now) rfl
  have c5 := Blk.cell hm 5 (v := .int .i64 m.state) rfl
  have c6 := Blk.cell hm 6 (v := .int .i64 m.begun) rfl
  have c7 := Blk.cell hm 7 (v := .int .i64 m.wake) rfl
  have c8 := Blk.cell hm 8 (v := .int .i64 m.last) rfl
  have c9 := Blk.cell hm 9 (v := .int .i64 m.spent) rfl
  have c10 := Blk.cell hm 10 (v := .int .i64 m.missed) rfl
  have z5 := Blk.frozen hm 5
  have z7 := Blk.frozen hm 7
  have z8 := Blk.frozen hm 8
  have er : m.rest = m.reset := rest_yes m hk.1 hk.2
  rw [settle2_over m h4 hb, er, s2_else _ (by simp [Aw.M.reset]) (by simp [Aw.M.reset])]
  have kr := rest_any m g
  rw [er] at kr
  have hb' : decide (m.burst ≤ m.now - m.begun) = true := by simpa using hb
  rw [h4] at c5
  have e4 : ((4 : Int) == 4) = true := rfl
  clear h4 er hk
  go_enter Try.func26, Try.ntmps26
  go_wp2_with (first | go_quiet (fail))
  (with_reducible refine (kr _ (At.drewN hm _)).mono ?_); rintro e w1 ⟨rfl, ht⟩
  have h3 := ((Turned.refl hm).drewN _).trans ht
  have d5 := Blk.cell ht.1 5 (v := .int .i64 1) rfl
  go_wp2_with (first | go_quiet (fail))
  all_goals (first | (refine bodyPost_ret (results_none rfl _ _ _) rfl ?_) | go_end0)
  exact ⟨rfl, h3⟩


set_option maxHeartbeats 400000 in
theorem settle_over2a (m : Aw.M) (g : Nat) (w : World) (hm : At w g m) (hs : Small m) (h4 : m.state = 4) (hb : m.burst ≤ m.now - m.begun) (hk : ¬ (m.wake = 0 ∧ m.last = 0)) (hw : m.now < m.wake) :
    Calls Try.prog 26 #[.pointer (some ⟨g, 0, none⟩)] w fun e w' => e = .returned (.tuple #[]) ∧ Turned w w' g m.settle := by
  obtain ⟨n1, n2, b1, b2, w1, w2, p1, p2, x1, x2⟩ := hs
  have c0 := Blk.cell hm 0 (v := .int .i64 m.unit) rfl
  have c1 := Blk.cell hm 1 (v := .int .i64 m.guard) rfl
  have c2 := Blk.cell hm 2 (v := .int .i64 m.burst) rfl
  have c3 := Blk.cell hm 3 (v := .int .i64 m.pat) rfl
  have c4 := Blk.cell hm 4 (v := .int .i64 m.now) rfl
  have c5 := Blk.cell hm 5 (v := .int .i64 m.state) rfl
  have c6 := Blk.cell hm 6 (v := .int .i64 m.begun) rfl
  have c7 := Blk.cell hm 7 (v := .int .i64 m.wake) rfl
  have c8 := Blk.cell hm 8 (v := .int .i64 m.last) rfl
  have c9 := Blk.cell hm 9 (v := .int .i64 m.spent) rfl
  have c10 := Blk.cell hm 10 (v := .int .i64 m.missed) rfl
  have z5 := Blk.frozen hm 5
  have z7 := Blk.frozen hm 7
  have z8 := Blk.frozen hm 8
  have er : m.rest = m.setState 2 := by unfold Aw.M.rest; rw [if_neg hk]
  have kr := rest_any m g
  rw [er] at kr
  have hb' : decide (m.burst ≤ m.now - m.begun) = true := by simpa using hb
  rw [settle2_over m h4 hb, er]
  rw [h4] at c5
  have e4 : ((4 : Int) == 4) = true := rfl
  clear h4 er hk
  rw [s2_asleep _ rfl (by exact hw)]
  go_enter Try.func26, Try.ntmps26
  go_wp2_with (first | go_quiet (fail))
  (with_reducible refine (kr _ (At.drewN hm _)).mono ?_); rintro e w1 ⟨rfl, ht⟩
  have h3 := ((Turned.refl hm).drewN _).trans ht
  have d1 := Blk.cell ht.1 4 (v := .int .i64 m.now) rfl
  have d3 := Blk.cell ht.1 3 (v := .int .i64 m.pat) rfl
  have d5 := Blk.cell ht.1 5 (v := .int .i64 2) rfl
  have d7 := Blk.cell ht.1 7 (v := .int .i64 m.wake) rfl
  have d8 := Blk.cell ht.1 8 (v := .int .i64 m.last) rfl
  have y5 := Blk.frozen ht.1 5
  go_wp2_with (first | go_quiet (fail))
  all_goals (first | (refine bodyPost_ret (results_none rfl _ _ _) rfl ?_) | go_end0)
  exact ⟨rfl, h3.drewN _⟩

set_option maxHeartbeats 400000 in
theorem settle_over2b (m : Aw.M) (g : Nat) (w : World) (hm : At w g m) (hs : Small m) (h4 : m.state = 4) (hb : m.burst ≤ m.now - m.begun) (hk : ¬ (m.wake = 0 ∧ m.last = 0)) (hw : ¬ m.now < m.wake) (hx : ¬ m.last + m.pat < m.now) :
    Calls Try.prog 26 #[.pointer (some ⟨g, 0, none⟩)] w fun e w' => e = .returned (.tuple #[]) ∧ Turned w w' g m.settle := by
  obtain ⟨n1, n2, b1, b2, w1, w2, p1, p2, x1, x2⟩ := hs
  have c0 := Blk.cell hm 0 (v := .int .i64 m.unit) rfl
  have c1 := Blk.cell hm 1 (v := .int .i64 m.guard) rfl
  have c2 := Blk.cell hm 2 (v := .int .i64 m.burst) rfl
  have c3 := Blk.cell hm 3 (v := .int .i64 m.pat) rfl
  have c4 := Blk.cell hm 4 (v := .int .i64 m.now) rfl
  have c5 := Blk.cell hm 5 (v := .int .i64 m.state) rfl
  have c6 := Blk.cell hm 6 (v := .int .i64 m.begun) rfl
  have c7 := Blk.cell hm 7 (v := .int .i64 m.wake) rfl
  have c8 := Blk.cell hm 8 (v := .int .i64 m.last) rfl
  have c9 := Blk.cell hm 9 (v := .int .i64 m.spent) rfl
  have c10 := Blk.cell hm 10 (v := .int .i64 m.missed) rfl
  have z5 := Blk.frozen hm 5
  have z7 := Blk.frozen hm 7
  have z8 := Blk.frozen hm 8
  have er : m.rest = m.setState 2 := by unfold Aw.M.rest; rw [if_neg hk]
  have kr := rest_any m g
  rw [er] at kr
  have hb' : decide (m.burst ≤ m.now - m.begun) = true := by simpa using hb
  rw [settle2_over m h4 hb, er]
  rw [h4] at c5
  have e4 : ((4 : Int) == 4) = true := rfl
  clear h4 er hk
  rw [s2_awaken _ rfl (by exact hw), expire_no _ (by exact hx)]
  go_enter Try.func26, Try.ntmps26
  go_wp2_with (first | go_quiet (fail))
  (with_reducible refine (kr _ (At.drewN hm _)).mono ?_); rintro e w1 ⟨rfl, ht⟩
  have h3 := ((Turned.refl hm).drewN _).trans ht
  have d1 := Blk.cell ht.1 4 (v := .int .i64 m.now) rfl
  have d3 := Blk.cell ht.1 3 (v := .int .i64 m.pat) rfl
  have d5 := Blk.cell ht.1 5 (v := .int .i64 2) rfl
  have d7 := Blk.cell ht.1 7 (v := .int .i64 m.wake) rfl
  have d8 := Blk.cell ht.1 8 (v := .int .i64 m.last) rfl
  have y5 := Blk.frozen ht.1 5
  go_wp2_with (first | go_quiet (fail))
  all_goals (first | (refine bodyPost_ret (results_none rfl _ _ _) rfl ?_) | go_end0)
  exact ⟨rfl, ((h3.drewN _).state 3).drewN _⟩

set_option maxHeartbeats 400000 in
theorem settle_over2c (m : Aw.M) (g : Nat) (w : World) (hm : At w g m) (hs : Small m) (h4 : m.state = 4) (hb : m.burst ≤ m.now - m.begun) (hk : ¬ (m.wake = 0 ∧ m.last = 0)) (hw : ¬ m.now < m.wake) (hx : m.last + m.pat < m.now) :
    Calls Try.prog 26 #[.pointer (some ⟨g, 0, none⟩)] w fun e w' => e = .returned (.tuple #[]) ∧ Turned w w' g m.settle := by
  obtain ⟨n1, n2, b1, b2, w1, w2, p1, p2, x1, x2⟩ := hs
  have c0 := Blk.cell hm 0 (v := .int .i64 m.unit) rfl
  have c1 := Blk.cell hm 1 (v := .int .i64 m.guard) rfl
  have c2 := Blk.cell hm 2 (v := .int .i64 m.burst) rfl
  have c3 := Blk.cell hm 3 (v := .int .i64 m.pat) rfl
  have c4 := Blk.cell hm 4 (v := .int .i64 m.now) rfl
  have c5 := Blk.cell hm 5 (v := .int .i64 m.state) rfl
  have c6 := Blk.cell hm 6 (v := .int .i64 m.begun) rfl
  have c7 := Blk.cell hm 7 (v := .int .i64 m.wake) rfl
  have c8 := Blk.cell hm 8 (v := .int .i64 m.last) rfl
  have c9 := Blk.cell hm 9 (v := .int .i64 m.spent) rfl
  have c10 := Blk.cell hm 10 (v := .int .i64 m.missed) rfl
  have z5 := Blk.frozen hm 5
  have z7 := Blk.frozen hm 7
  have z8 := Blk.frozen hm 8
  have er : m.rest = m.setState 2 := by unfold Aw.M.rest; rw [if_neg hk]
  have kr := rest_any m g
  rw [er] at kr
  have hb' : decide (m.burst ≤ m.now - m.begun) = true := by simpa using hb
  rw [settle2_over m h4 hb, er]
  rw [h4] at c5
  have e4 : ((4 : Int) == 4) = true := rfl
  clear h4 er hk
  rw [s2_awaken _ rfl (by exact hw), expire_yes _ (by exact hx)]
  go_enter Try.func26, Try.ntmps26
  go_wp2_with (first | go_quiet (fail))
  (with_reducible refine (kr _ (At.drewN hm _)).mono ?_); rintro e w1 ⟨rfl, ht⟩
  have h3 := ((Turned.refl hm).drewN _).trans ht
  have d1 := Blk.cell ht.1 4 (v := .int .i64 m.now) rfl
  have d3 := Blk.cell ht.1 3 (v := .int .i64 m.pat) rfl
  have d5 := Blk.cell ht.1 5 (v := .int .i64 2) rfl
  have d7 := Blk.cell ht.1 7 (v := .int .i64 m.wake) rfl
  have d8 := Blk.cell ht.1 8 (v := .int .i64 m.last) rfl
  have y5 := Blk.frozen ht.1 5
  go_wp2_with (first | go_quiet (fail))
  have h6 := fun a b => ((h3.drewN a).state 3).drewN b
  (with_reducible refine (reset_any _ g _ (h6 _ _).at_).mono ?_); rintro e w2 ⟨rfl, ht2⟩
  have h7 := (h6 _ _).trans ht2
  have d10 := Blk.cell ht2.1 10 (v := .int .i64 m.missed) rfl
  have y10 := Blk.frozen ht2.1 10
  go_wp2
  all_goals (first | (refine bodyPost_ret (results_none rfl _ _ _) rfl ?_) | go_end0)
  exact ⟨rfl, h7.miss⟩

theorem settle_any (m : Aw.M) (g : Nat) (w : World) (hm : At w g m) (hs : Small m) :
    Calls Try.prog 26 #[.pointer (some ⟨g, 0, none⟩)] w fun e w' => e = .returned (.tuple #[]) ∧ Turned w w' g m.settle := by
  by_cases h2 : m.state = 2
  · exact settle_sleep m g w hm hs h2
  by_cases h3 : m.state = 3
  · exact settle_wait m g w hm hs h3
  by_cases h4 : m.state = 4 ∧ m.burst ≤ m.now - m.begun
  · by_cases hk : m.wake = 0 ∧ m.last = 0
    · exact settle_over1 m g w hm hs h4.1 h4.2 hk
    by_cases hw : m.now < m.wake
    · exact settle_over2a m g w hm hs h4.1 h4.2 hk hw
    by_cases hx : m.last + m.pat < m.now
    · exact settle_over2c m g w hm hs h4.1 h4.2 hk hw hx
    · exact settle_over2b m g w hm hs h4.1 h4.2 hk hw hx
  · exact settle_else m g w hm hs h2 h3 h4
end Go.Proofs.Ytknjnpagbpjlkaa.AwB
