/- Walks over layer 21: Heard. -/
import Derived.Test.YtknjnpagbpjlkaaAwC
import Derived.Deep.RegionHeld3
import Derived.Lib.Hide
namespace Go.Proofs.Ytknjnpagbpjlkaa.AwD
open Go.RowKit Go.Proofs.Ytknjnpagbpjlkaa.Q Go.Proofs.Ytknjnpagbpjlkaa.Mem Go.Proofs.Ytknjnpagbpjlkaa.AwA Go.Proofs.Ytknjnpagbpjlkaa.AwB Go.Proofs.Ytknjnpagbpjlkaa.AwC

theorem heard_nil (d a : Int) (tb fr : Bool) (w : World) : Calls Try.prog 18 #[.pointer none, .agg #[.int .i64 d, .bool tb, .bool fr, .int .i64 a]] w fun e w' => e = .returned (.int .i64 2) ∧ Below w.heap.size w w' := by
  go_enter Try.func18, Try.ntmps18
  go_wp2
  go_ret
  exact ⟨rfl, (Below.refl _ _).alloc (Nat.le_refl _) _⟩

theorem heard_sleep (m : Aw.M) (g : Nat) (d a : Int) (tb fr : Bool) (w : World) (hm : At w g m) (h2 : m.state = 2) :
    Calls Try.prog 18 #[.pointer (some ⟨g, 0, none⟩), .agg #[.int .i64 d, .bool tb, .bool fr, .int .i64 a]] w fun e w' => e = .returned (.int .i64 22) ∧ Turned w w' g m := by
  have hlt : g < w.heap.size := Blk.lt hm
  have c5 := Blk.cell hm 5 (v := .int .i64 m.state) rfl
  rw [h2] at c5
  clear h2
  go_enter Try.func18, Try.ntmps18
  go_wp2
  go_ret
  exact ⟨rfl, Blk.alloc hm _, only_alloc (only_refl _ _) _⟩

theorem heard_bad (m : Aw.M) (g : Nat) (d a : Int) (tb fr : Bool) (w : World) (hm : At w g m) (h2 : ¬ m.state = 2) (hE : Aw.timesE d a = 15) :
    Calls Try.prog 18 #[.pointer (some ⟨g, 0, none⟩), .agg #[.int .i64 d, .bool tb, .bool fr, .int .i64 a]] w fun e w' => e = .returned (.int .i64 15) ∧ Turned w w' g m := by
  have hlt : g < w.heap.size := Blk.lt hm
  have c5 := Blk.cell hm 5 (v := .int .i64 m.state) rfl
  have e2 : (m.state == 2) = false := by simpa using h2
  have k0 := times_check d a
  rw [hE] at k0
  clear h2 hE
  go_enter Try.func18, Try.ntmps18
  go_wp2_with (go_at_call 28; (with_reducible refine (k0 _ _ _).mono ?_); rintro e w' ⟨rfl, rfl⟩)
  go_ret
  exact ⟨rfl, Blk.alloc (Blk.alloc hm _) _, only_alloc (only_alloc (only_refl _ _) _) _⟩

/-- as a section is heard, ahead of what it tells -/
def clean (m : Aw.M) : Aw.M := ⟨m.enter.unit, m.enter.guard, m.enter.burst, m.enter.pat, m.enter.now, m.enter.state, m.enter.begun, 0, 0, m.enter.spent, m.enter.missed⟩
def wakeAt (m : Aw.M) (x : Int) : Aw.M := ⟨m.unit, m.guard, m.burst, m.pat, m.now, m.state, m.begun, x, m.last, m.spent, m.missed⟩
def lastAt (m : Aw.M) (x : Int) : Aw.M := ⟨m.unit, m.guard, m.burst, m.pat, m.now, m.state, m.begun, m.wake, x, m.spent, m.missed⟩
theorem turned_wake (m : Aw.M) (g : Nat) (w : World) (hm : At w g m) (x : Int) : Turned w (w.setCell ⟨g, 7, none⟩ (.int .i64 x)) g (wakeAt m x) :=
  ⟨Blk.set_ hm 7 _, only_set (only_refl _ _) _ _⟩
theorem turned_last (m : Aw.M) (g : Nat) (w : World) (hm : At w g m) (x : Int) : Turned w (w.setCell ⟨g, 8, none⟩ (.int .i64 x)) g (lastAt m x) :=
  ⟨Blk.set_ hm 8 _, only_set (only_refl _ _) _ _⟩
theorem turned_ext {w w' : World} {g : Nat} {m : Aw.M} (h : Turned w w' g m) (p : Ext) : Turned w (ext w' p) g m :=
  ⟨blk_ext h.at_ p, only_trans h.only (only_of_below (below_ext w' p) _)⟩

theorem Turned.alloc {w w' : World} {g : Nat} {m : Aw.M} (h : Turned w w' g m) (o : Obj) : Turned w (w'.alloc o) g m := ⟨Blk.alloc h.at_ o, only_alloc h.only o⟩
theorem entered (m : Aw.M) (g : Nat) (w : World) (hm : At w g m) :
    Turned w ((((w.setCell ⟨g, 5, none⟩ (.int .i64 4)).setCell ⟨g, 6, none⟩ (.int .i64 m.now)).setCell ⟨g, 7, none⟩ (.int .i64 0)).setCell ⟨g, 8, none⟩ (.int .i64 0)) g ⟨m.unit, m.guard, m.burst, m.pat, m.now, 4, m.now, 0, 0, m.spent, m.missed⟩ :=
  ⟨(((Blk.set_ hm 5 (.int .i64 4)).set_ 6 (.int .i64 m.now)).set_ 7 (.int .i64 0)).set_ 8 (.int .i64 0), only_set (only_set (only_set (only_set (only_refl _ _) _ _) _ _) _ _) _ _⟩
theorem cleared (m : Aw.M) (g : Nat) (w : World) (hm : At w g m) :
    Turned w ((w.setCell ⟨g, 7, none⟩ (.int .i64 0)).setCell ⟨g, 8, none⟩ (.int .i64 0)) g ⟨m.unit, m.guard, m.burst, m.pat, m.now, m.state, m.begun, 0, 0, m.spent, m.missed⟩ :=
  ⟨(Blk.set_ hm 7 (.int .i64 0)).set_ 8 (.int .i64 0), only_set (only_set (only_refl _ _) _ _) _ _⟩

/-- the machine, and the box of what is told -/
structure Hears (w W : World) (g : Nat) (m : Aw.M) (d a : Int) (tb fr : Bool) : Prop where
  t : Turned w W g m
  b : Blk W w.heap.size 37 #[.int .i64 d, .bool tb, .bool fr, .int .i64 a]
theorem Hears.wake {w W : World} {g : Nat} {m : Aw.M} {d a : Int} {tb fr : Bool} (h : Hears w W g m d a tb fr) (hg : g < w.heap.size) (x : Int) : Hears w (W.setCell ⟨g, 7, none⟩ (.int .i64 x)) g (wakeAt m x) d a tb fr :=
  ⟨h.t.trans (turned_wake m g W h.t.at_ x), Blk.far h.b (by simp; omega) _⟩
theorem Hears.last {w W : World} {g : Nat} {m : Aw.M} {d a : Int} {tb fr : Bool} (h : Hears w W g m d a tb fr) (hg : g < w.heap.size) (x : Int) : Hears w (W.setCell ⟨g, 8, none⟩ (.int .i64 x)) g (lastAt m x) d a tb fr :=
  ⟨h.t.trans (turned_last m g W h.t.at_ x), Blk.far h.b (by simp; omega) _⟩

theorem Hears.ext_ {w W : World} {g : Nat} {m : Aw.M} {d a : Int} {tb fr : Bool} (h : Hears w W g m d a tb fr) (p : Ext) : Hears w (ext W p) g m d a tb fr := ⟨turned_ext h.t p, blk_ext h.b p⟩

theorem Turned.drew {w w' : World} {g : Nat} {m : Aw.M} (h : Turned w w' g m) : Turned w w'.drew g m := ⟨h.1, only_drew h.2⟩

/-- what is known behind a section that told of d units -/
def told (m : Aw.M) (d : Int) : Aw.M := lastAt (wakeAt (clean m) (max m.now (Aw.firstOf m.now d m.unit - m.guard))) (m.now + d * m.unit)
theorem know_yes (m : Aw.M) (d : Int) (hd : 0 < d) : m.enter.know d = told m d := by
  have e : Aw.wakeOf m.now d m.unit m.guard = max m.now (Aw.firstOf m.now d m.unit - m.guard) := by unfold Aw.wakeOf Aw.firstOf; omega
  unfold Aw.M.know told lastAt wakeAt clean
  rw [if_pos hd]
  have e1 : m.enter.now = m.now := by unfold Aw.M.enter; split <;> rfl
  have e2 : m.enter.unit = m.unit := by unfold Aw.M.enter; split <;> rfl
  have e3 : m.enter.guard = m.guard := by unfold Aw.M.enter; split <;> rfl
  simp only [e1, e2, e3, e]
theorem know_no (m : Aw.M) (d : Int) (hd : d ≤ 0) : m.enter.know d = clean m := by
  unfold Aw.M.know clean
  rw [if_neg (by omega)]
theorem hear_frame (m : Aw.M) (d : Int) : m.hear d true = (m.enter.know d).rest.settle := rfl
theorem hear_mid (m : Aw.M) (d : Int) : m.hear d false = m.enter.know d := rfl

theorem small_rest (m : Aw.M) (h : Small m) : Small m.rest := by
  obtain ⟨n1, n2, b1, b2, w1, w2, p1, p2, x1, x2⟩ := h
  unfold Aw.M.rest
  split
  · constructor <;> simp only [Aw.M.reset] <;> first | assumption | omega
  · constructor <;> simp only [Aw.M.setState] <;> assumption
theorem small_clean (m : Aw.M) (hi : m.Inv) : Small (clean m) := by
  have := hi.n1; have := hi.n2; have := hi.e1; have := hi.e2; have := hi.p1; have := hi.p2; have := hi.m1; have := hi.m2
  unfold clean Aw.M.enter
  constructor <;> split <;> simp only <;> omega
theorem small_told (m : Aw.M) (hi : m.Inv) (d : Int) (hd : 0 < d) (hd' : d < 4096) : Small (told m d) := by
  obtain ⟨n1, n2, b1, b2, w1, w2, p1, p2, x1, x2⟩ := small_clean m hi
  have i1 := hi.u1; have i2 := hi.u2; have i3 := hi.n1; have i4 := hi.n2
  have hm0 : 0 ≤ d * m.unit := Int.mul_nonneg (by omega) (by omega)
  have hm1 : d * m.unit ≤ 4096 * 1048576 := Int.mul_le_mul (by omega) i2 (by omega) (by omega)
  unfold told lastAt wakeAt
  constructor <;> simp only <;> first | assumption | omega




set_option maxHeartbeats 1000000 in
theorem heard_try1 (m : Aw.M) (g : Nat) (d a : Int) (tb fr : Bool) (w : World) (hm : At w g m) (hi : m.Inv) (h2 : ¬ m.state = 2) (hE : Aw.timesE d a = 0) (h4 : ¬ m.state = 4) (hd : 0 < d) (hd' : d < 4096) :
    Calls Try.prog 18 #[.pointer (some ⟨g, 0, none⟩), .agg #[.int .i64 d, .bool tb, .bool fr, .int .i64 a]] w fun e w' => e = .returned (.int .i64 0) ∧ Turned w w' g (m.hear d fr) := by
  have hlt : g < w.heap.size := Blk.lt hm
  have c0 := Blk.cell hm 0 (v := .int .i64 m.unit) rfl
  have c1 := Blk.cell hm 1 (v := .int .i64 m.guard) rfl
  have c2 := Blk.cell hm 2 (v := .int .i64 m.burst) rfl
  have c3 := Blk.cell hm 3 (v := .int .i64 m.pat) rfl
  have c4 := Blk.cell hm 4 (v := .int .i64 m.now) rfl
  have c5 := Blk.cell hm 5 (v := .int .i64 m.state) rfl
  have c6 := Blk.cell hm 6 (v := .int .i64 m.begun) rfl
  have c7 := Blk.cell hm 7 (v := .int .i64 m.wake) rfl
  have c8 := Blk.cell hm 8 (v := .int .i64 m.last) rfl
  have c9 := Blk.cell hm 9 (v := .int .i64 m.spent) rfl
  have c10 := Blk.cell hm 10 (v := .int .i64 m.missed) rfl
  have z5 := Blk.frozen hm 5
  have z7 := Blk.frozen hm 7
  have z8 := Blk.frozen hm 8
  have z6 := Blk.frozen hm 6
  have e2 : (m.state == 2) = false := by simpa using h2
  have k0 := times_check d a
  rw [hE] at k0
  have e4 : (m.state != 4) = true := by simpa using h4
  have ec : clean m = ⟨m.unit, m.guard, m.burst, m.pat, m.now, 4, m.now, 0, 0, m.spent, m.missed⟩ := by unfold clean Aw.M.enter; rw [if_neg h4]
  clear h2 hE h4
  go_enter Try.func18, Try.ntmps18
  go_wp2_with (first | (go_at_call 28; (with_reducible refine (k0 _ _ _).mono ?_); rintro e w' ⟨rfl, rfl⟩))
  refine wp_gen (fun W => Hears w W g ⟨m.unit, m.guard, m.burst, m.pat, m.now, 4, m.now, 0, 0, m.spent, m.missed⟩ d a tb fr) (by exact ⟨Turned.alloc (Turned.alloc (entered m g w hm) _) _, Blk.alloc (Blk.newAt _ _ _ (by simp [World.setCell])) _⟩) ?_
  rintro W1 hW1
  have HC := Lib.hid ec
  clear k0 c0 c1 c2 c3 c4 c5 c6 c7 c8 c9 c10 z5 z7 z8 z6 e2 e4 ec
  have q4 := Blk.cell hW1.t.at_ 4 (v := .int .i64 m.now) rfl
  have q0 := Blk.cell hW1.t.at_ 0 (v := .int .i64 m.unit) rfl
  have q1 := Blk.cell hW1.t.at_ 1 (v := .int .i64 m.guard) rfl
  have q7 := Blk.cell hW1.t.at_ 7 (v := .int .i64 0) rfl
  have y7 := Blk.frozen hW1.t.at_ 7
  have b0 := Blk.cell hW1.b 0 (v := .int .i64 d) rfl
  have i1 := hi.n1
  have i2 := hi.n2
  have i3 := hi.u1
  have i4 := hi.u2
  have i5 := hi.g1
  have i6 := hi.g2
  have s4 := fun x => Blk.cell (hW1.wake hlt x).t.at_ 4 (v := .int .i64 m.now) rfl
  have s0 := fun x => Blk.cell (hW1.wake hlt x).t.at_ 0 (v := .int .i64 m.unit) rfl
  have s1 := fun x => Blk.cell (hW1.wake hlt x).t.at_ 1 (v := .int .i64 m.guard) rfl
  have s8 := fun x => Blk.cell (hW1.wake hlt x).t.at_ 8 (v := .int .i64 0) rfl
  have v8 := fun x => Blk.frozen (hW1.wake hlt x).t.at_ 8
  have sb := fun x => Blk.cell (hW1.wake hlt x).b 0 (v := .int .i64 d) rfl
  have sb2 := fun x y => Blk.cell ((hW1.wake hlt x).last hlt y).b 2 (v := .bool fr) rfl
  have r4 := fun x y => Blk.cell ((hW1.wake hlt x).last hlt y).t.at_ 4 (v := .int .i64 m.now) rfl
  have r0 := fun x y => Blk.cell ((hW1.wake hlt x).last hlt y).t.at_ 0 (v := .int .i64 m.unit) rfl
  have rb := fun x y => Blk.cell ((hW1.wake hlt x).last hlt y).b 0 (v := .int .i64 d) rfl
  go_region_held3 (fun w' => w'.cell? ⟨g, 4, none⟩ = some (.int .i64 m.now) ∧ w'.cell? ⟨w.heap.size, 0, none⟩ = some (.int .i64 d) ∧ w'.cell? ⟨g, 0, none⟩ = some (.int .i64 m.unit) ∧ w'.cell? ⟨g, 1, none⟩ = some (.int .i64 m.guard)) (first | exact ⟨q4, b0, q0, q1⟩ | exact ⟨s4 _, sb _, s0 _, s1 _⟩) ((go_at_call 29; refine (wake_any _ _ _ _ _ i1 (by omega) (by omega) hd' i3 i4 i5 i6).mono ?_; rintro e w' ⟨rfl, rfl⟩))
  go_wp2_with fail
  go_region_held3 (fun w' => w'.cell? ⟨g, 4, none⟩ = some (.int .i64 m.now) ∧ w'.cell? ⟨w.heap.size, 0, none⟩ = some (.int .i64 d) ∧ w'.cell? ⟨g, 0, none⟩ = some (.int .i64 m.unit)) (first | exact ⟨s4 _, sb _, s0 _⟩ | exact ⟨r4 _ _, rb _ _, r0 _ _⟩) ((go_at_call 30; refine (window_any _ _ _ _ i1 (by omega) (by omega) hd' i3 i4).mono ?_; rintro e w' ⟨rfl, rfl⟩))
  have hT : Turned w ((W1.setCell ⟨g, 7, none⟩ (.int .i64 (max m.now (Aw.firstOf m.now d m.unit - m.guard)))).setCell ⟨g, 8, none⟩ (.int .i64 (m.now + d * m.unit))).drew.drew g (told m d) := by unfold told; rw [HC.out]; exact Turned.drew (Turned.drew (((hW1.wake hlt _).last hlt _).t))
  clear HC q4 q0 q1 q7 y7 b0 i1 i2 i3 i4 i5 i6 s4 s0 s1 s8 v8 sb r4 r0 rb
  go_wp2_with fail
  · (with_reducible refine (rest_any _ g _ (hT).at_).mono ?_); rintro e w2 ⟨rfl, t2⟩
    go_wp2_with fail
    (with_reducible refine (settle_any _ g _ t2.at_ (small_rest _ (small_told m hi d hd hd'))).mono ?_); rintro e w3 ⟨rfl, t3⟩
    go_wp2_with fail
    go_ret
    exact ⟨rfl, by subst_vars; rw [hear_frame]; first | (rw [know_yes m d hd]; exact ((hT).trans t2).trans t3) | (rw [know_no m d hd]; exact ((hT).trans t2).trans t3)⟩
  · go_ret
    exact ⟨rfl, by subst_vars; rw [hear_mid]; first | (rw [know_yes m d hd]; exact hT) | (rw [know_no m d hd]; exact hT)⟩

set_option maxHeartbeats 1000000 in
theorem heard_try2 (m : Aw.M) (g : Nat) (d a : Int) (tb fr : Bool) (w : World) (hm : At w g m) (hi : m.Inv) (h2 : ¬ m.state = 2) (hE : Aw.timesE d a = 0) (h4 : m.state = 4) (hd : 0 < d) (hd' : d < 4096) :
    Calls Try.prog 18 #[.pointer (some ⟨g, 0, none⟩), .agg #[.int .i64 d, .bool tb, .bool fr, .int .i64 a]] w fun e w' => e = .returned (.int .i64 0) ∧ Turned w w' g (m.hear d fr) := by
  have hlt : g < w.heap.size := Blk.lt hm
  have c0 := Blk.cell hm 0 (v := .int .i64 m.unit) rfl
  have c1 := Blk.cell hm 1 (v := .int .i64 m.guard) rfl
  have c2 := Blk.cell hm 2 (v := .int .i64 m.burst) rfl
  have c3 := Blk.cell hm 3 (v := .int .i64 m.pat) rfl
  have c4 := Blk.cell hm 4 (v := .int .i64 m.now) rfl
  have c5 := Blk.cell hm 5 (v := .int .i64 m.state) rfl
  have c6 := Blk.cell hm 6 (v := .int .i64 m.begun) rfl
  have c7 := Blk.cell hm 7 (v := .int .i64 m.wake) rfl
  have c8 := Blk.cell hm 8 (v := .int .i64 m.last) rfl
  have c9 := Blk.cell hm 9 (v := .int .i64 m.spent) rfl
  have c10 := Blk.cell hm 10 (v := .int .i64 m.missed) rfl
  have z5 := Blk.frozen hm 5
  have z7 := Blk.frozen hm 7
  have z8 := Blk.frozen hm 8
  have z6 := Blk.frozen hm 6
  have e2 : (m.state == 2) = false := by simpa using h2
  have k0 := times_check d a
  rw [hE] at k0
  have e4 : (m.state != 4) = false := by simpa using h4
  have ec : clean m = ⟨m.unit, m.guard, m.burst, m.pat, m.now, m.state, m.begun, 0, 0, m.spent, m.missed⟩ := by unfold clean Aw.M.enter; rw [if_pos h4]
  clear h2 hE h4
  go_enter Try.func18, Try.ntmps18
  go_wp2_with (first | (go_at_call 28; (with_reducible refine (k0 _ _ _).mono ?_); rintro e w' ⟨rfl, rfl⟩))
  refine wp_gen (fun W => Hears w W g ⟨m.unit, m.guard, m.burst, m.pat, m.now, m.state, m.begun, 0, 0, m.spent, m.missed⟩ d a tb fr) (by exact ⟨Turned.alloc (Turned.alloc (cleared m g w hm) _) _, Blk.alloc (Blk.newAt _ _ _ (by simp [World.setCell])) _⟩) ?_
  rintro W1 hW1
  have HC := Lib.hid ec
  clear k0 c0 c1 c2 c3 c4 c5 c6 c7 c8 c9 c10 z5 z7 z8 z6 e2 e4 ec
  have q4 := Blk.cell hW1.t.at_ 4 (v := .int .i64 m.now) rfl
  have q0 := Blk.cell hW1.t.at_ 0 (v := .int .i64 m.unit) rfl
  have q1 := Blk.cell hW1.t.at_ 1 (v := .int .i64 m.guard) rfl
  have q7 := Blk.cell hW1.t.at_ 7 (v := .int .i64 0) rfl
  have y7 := Blk.frozen hW1.t.at_ 7
  have b0 := Blk.cell hW1.b 0 (v := .int .i64 d) rfl
  have i1 := hi.n1
  have i2 := hi.n2
  have i3 := hi.u1
  have i4 := hi.u2
  have i5 := hi.g1
  have i6 := hi.g2
  have s4 := fun x => Blk.cell (hW1.wake hlt x).t.at_ 4 (v := .int .i64 m.now) rfl
  have s0 := fun x => Blk.cell (hW1.wake hlt x).t.at_ 0 (v := .int .i64 m.unit) rfl
  have s1 := fun x => Blk.cell (hW1.wake hlt x).t.at_ 1 (v := .int .i64 m.guard) rfl
  have s8 := fun x => Blk.cell (hW1.wake hlt x).t.at_ 8 (v := .int .i64 0) rfl
  have v8 := fun x => Blk.frozen (hW1.wake hlt x).t.at_ 8
  have sb := fun x => Blk.cell (hW1.wake hlt x).b 0 (v := .int .i64 d) rfl
  have sb2 := fun x y => Blk.cell ((hW1.wake hlt x).last hlt y).b 2 (v := .bool fr) rfl
  have r4 := fun x y => Blk.cell ((hW1.wake hlt x).last hlt y).t.at_ 4 (v := .int .i64 m.now) rfl
  have r0 := fun x y => Blk.cell ((hW1.wake hlt x).last hlt y).t.at_ 0 (v := .int .i64 m.unit) rfl
  have rb := fun x y => Blk.cell ((hW1.wake hlt x).last hlt y).b 0 (v := .int .i64 d) rfl
  go_region_held3 (fun w' => w'.cell? ⟨g, 4, none⟩ = some (.int .i64 m.now) ∧ w'.cell? ⟨w.heap.size, 0, none⟩ = some (.int .i64 d) ∧ w'.cell? ⟨g, 0, none⟩ = some (.int .i64 m.unit) ∧ w'.cell? ⟨g, 1, none⟩ = some (.int .i64 m.guard)) (first | exact ⟨q4, b0, q0, q1⟩ | exact ⟨s4 _, sb _, s0 _, s1 _⟩) ((go_at_call 29; refine (wake_any _ _ _ _ _ i1 (by omega) (by omega) hd' i3 i4 i5 i6).mono ?_; rintro e w' ⟨rfl, rfl⟩))
  go_wp2_with fail
  go_region_held3 (fun w' => w'.cell? ⟨g, 4, none⟩ = some (.int .i64 m.now) ∧ w'.cell? ⟨w.heap.size, 0, none⟩ = some (.int .i64 d) ∧ w'.cell? ⟨g, 0, none⟩ = some (.int .i64 m.unit)) (first | exact ⟨s4 _, sb _, s0 _⟩ | exact ⟨r4 _ _, rb _ _, r0 _ _⟩) ((go_at_call 30; refine (window_any _ _ _ _ i1 (by omega) (by omega) hd' i3 i4).mono ?_; rintro e w' ⟨rfl, rfl⟩))
  have hT : Turned w ((W1.setCell ⟨g, 7, none⟩ (.int .i64 (max m.now (Aw.firstOf m.now d m.unit - m.guard)))).setCell ⟨g, 8, none⟩ (.int .i64 (m.now + d * m.unit))).drew.drew g (told m d) := by unfold told; rw [HC.out]; exact Turned.drew (Turned.drew (((hW1.wake hlt _).last hlt _).t))
  clear HC q4 q0 q1 q7 y7 b0 i1 i2 i3 i4 i5 i6 s4 s0 s1 s8 v8 sb r4 r0 rb
  go_wp2_with fail
  · (with_reducible refine (rest_any _ g _ (hT).at_).mono ?_); rintro e w2 ⟨rfl, t2⟩
    go_wp2_with fail
    (with_reducible refine (settle_any _ g _ t2.at_ (small_rest _ (small_told m hi d hd hd'))).mono ?_); rintro e w3 ⟨rfl, t3⟩
    go_wp2_with fail
    go_ret
    exact ⟨rfl, by subst_vars; rw [hear_frame]; first | (rw [know_yes m d hd]; exact ((hT).trans t2).trans t3) | (rw [know_no m d hd]; exact ((hT).trans t2).trans t3)⟩
  · go_ret
    exact ⟨rfl, by subst_vars; rw [hear_mid]; first | (rw [know_yes m d hd]; exact hT) | (rw [know_no m d hd]; exact hT)⟩

set_option maxHeartbeats 1000000 in
theorem heard_try3 (m : Aw.M) (g : Nat) (d a : Int) (tb fr : Bool) (w : World) (hm : At w g m) (hi : m.Inv) (h2 : ¬ m.state = 2) (hE : Aw.timesE d a = 0) (h4 : ¬ m.state = 4) (hd : ¬ 0 < d) :
    Calls Try.prog 18 #[.pointer (some ⟨g, 0, none⟩), .agg #[.int .i64 d, .bool tb, .bool fr, .int .i64 a]] w fun e w' => e = .returned (.int .i64 0) ∧ Turned w w' g (m.hear d fr) := by
  have hlt : g < w.heap.size := Blk.lt hm
  have c0 := Blk.cell hm 0 (v := .int .i64 m.unit) rfl
  have c1 := Blk.cell hm 1 (v := .int .i64 m.guard) rfl
  have c2 := Blk.cell hm 2 (v := .int .i64 m.burst) rfl
  have c3 := Blk.cell hm 3 (v := .int .i64 m.pat) rfl
  have c4 := Blk.cell hm 4 (v := .int .i64 m.now) rfl
  have c5 := Blk.cell hm 5 (v := .int .i64 m.state) rfl
  have c6 := Blk.cell hm 6 (v := .int .i64 m.begun) rfl
  have c7 := Blk.cell hm 7 (v := .int .i64 m.wake) rfl
  have c8 := Blk.cell hm 8 (v := .int .i64 m.last) rfl
  have c9 := Blk.cell hm 9 (v := .int .i64 m.spent) rfl
  have c10 := Blk.cell hm 10 (v := .int .i64 m.missed) rfl
  have z5 := Blk.frozen hm 5
  have z7 := Blk.frozen hm 7
  have z8 := Blk.frozen hm 8
  have z6 := Blk.frozen hm 6
  have e2 : (m.state == 2) = false := by simpa using h2
  have k0 := times_check d a
  rw [hE] at k0
  have e4 : (m.state != 4) = true := by simpa using h4
  have ec : clean m = ⟨m.unit, m.guard, m.burst, m.pat, m.now, 4, m.now, 0, 0, m.spent, m.missed⟩ := by unfold clean Aw.M.enter; rw [if_neg h4]
  have HT : ∀ o o', Turned w ((((((w.setCell ⟨g, 5, none⟩ (.int .i64 4)).setCell ⟨g, 6, none⟩ (.int .i64 m.now)).setCell ⟨g, 7, none⟩ (.int .i64 0)).setCell ⟨g, 8, none⟩ (.int .i64 0)).alloc o).alloc o') g (clean m) := fun o o' => by rw [ec]; exact Turned.alloc (Turned.alloc (entered m g w hm) _) _
  clear ec
  clear h2 hE h4
  go_enter Try.func18, Try.ntmps18
  go_wp2_with (first | (go_at_call 28; (with_reducible refine (k0 _ _ _).mono ?_); rintro e w' ⟨rfl, rfl⟩))
  · (with_reducible refine (rest_any _ g _ ((HT _ _)).at_).mono ?_); rintro e w2 ⟨rfl, t2⟩
    go_wp2_with fail
    (with_reducible refine (settle_any _ g _ t2.at_ (small_rest _ (small_clean m hi))).mono ?_); rintro e w3 ⟨rfl, t3⟩
    go_wp2_with fail
    go_ret
    exact ⟨rfl, by subst_vars; rw [hear_frame]; first | (rw [know_yes m d hd]; exact (((HT _ _)).trans t2).trans t3) | (rw [know_no m d hd]; exact (((HT _ _)).trans t2).trans t3)⟩
  · go_ret
    exact ⟨rfl, by subst_vars; rw [hear_mid]; first | (rw [know_yes m d hd]; exact (HT _ _)) | (rw [know_no m d hd]; exact (HT _ _))⟩

set_option maxHeartbeats 1000000 in
theorem heard_try4 (m : Aw.M) (g : Nat) (d a : Int) (tb fr : Bool) (w : World) (hm : At w g m) (hi : m.Inv) (h2 : ¬ m.state = 2) (hE : Aw.timesE d a = 0) (h4 : m.state = 4) (hd : ¬ 0 < d) :
    Calls Try.prog 18 #[.pointer (some ⟨g, 0, none⟩), .agg #[.int .i64 d, .bool tb, .bool fr, .int .i64 a]] w fun e w' => e = .returned (.int .i64 0) ∧ Turned w w' g (m.hear d fr) := by
  have hlt : g < w.heap.size := Blk.lt hm
  have c0 := Blk.cell hm 0 (v := .int .i64 m.unit) rfl
  have c1 := Blk.cell hm 1 (v := .int .i64 m.guard) rfl
  have c2 := Blk.cell hm 2 (v := .int .i64 m.burst) rfl
  have c3 := Blk.cell hm 3 (v := .int .i64 m.pat) rfl
  have c4 := Blk.cell hm 4 (v := .int .i64 m.now) rfl
  have c5 := Blk.cell hm 5 (v := .int .i64 m.state) rfl
  have c6 := Blk.cell hm 6 (v := .int .i64 m.begun) rfl
  have c7 := Blk.cell hm 7 (v := .int .i64 m.wake) rfl
  have c8 := Blk.cell hm 8 (v := .int .i64 m.last) rfl
  have c9 := Blk.cell hm 9 (v := .int .i64 m.spent) rfl
  have c10 := Blk.cell hm 10 (v := .int .i64 m.missed) rfl
  have z5 := Blk.frozen hm 5
  have z7 := Blk.frozen hm 7
  have z8 := Blk.frozen hm 8
  have z6 := Blk.frozen hm 6
  have e2 : (m.state == 2) = false := by simpa using h2
  have k0 := times_check d a
  rw [hE] at k0
  have e4 : (m.state != 4) = false := by simpa using h4
  have ec : clean m = ⟨m.unit, m.guard, m.burst, m.pat, m.now, m.state, m.begun, 0, 0, m.spent, m.missed⟩ := by unfold clean Aw.M.enter; rw [if_pos h4]
  have HT : ∀ o o', Turned w ((((w.setCell ⟨g, 7, none⟩ (.int .i64 0)).setCell ⟨g, 8, none⟩ (.int .i64 0)).alloc o).alloc o') g (clean m) := fun o o' => by rw [ec]; exact Turned.alloc (Turned.alloc (cleared m g w hm) _) _
  clear ec
  clear h2 hE h4
  go_enter Try.func18, Try.ntmps18
  go_wp2_with (first | (go_at_call 28; (with_reducible refine (k0 _ _ _).mono ?_); rintro e w' ⟨rfl, rfl⟩))
  · (with_reducible refine (rest_any _ g _ ((HT _ _)).at_).mono ?_); rintro e w2 ⟨rfl, t2⟩
    go_wp2_with fail
    (with_reducible refine (settle_any _ g _ t2.at_ (small_rest _ (small_clean m hi))).mono ?_); rintro e w3 ⟨rfl, t3⟩
    go_wp2_with fail
    go_ret
    exact ⟨rfl, by subst_vars; rw [hear_frame]; first | (rw [know_yes m d hd]; exact (((HT _ _)).trans t2).trans t3) | (rw [know_no m d hd]; exact (((HT _ _)).trans t2).trans t3)⟩
  · go_ret
    exact ⟨rfl, by subst_vars; rw [hear_mid]; first | (rw [know_yes m d hd]; exact (HT _ _)) | (rw [know_no m d hd]; exact (HT _ _))⟩

theorem heard_any (m : Aw.M) (g : Nat) (d a : Int) (tb fr : Bool) (w : World) (hm : At w g m) (hi : m.Inv) :
    Calls Try.prog 18 #[.pointer (some ⟨g, 0, none⟩), .agg #[.int .i64 d, .bool tb, .bool fr, .int .i64 a]] w fun e w' => e = .returned (.int .i64 (m.heardE d a)) ∧ Turned w w' g (m.heard d fr a) := by
  by_cases h2 : m.state = 2
  · have e1 : m.heardE d a = 22 := by simp [Aw.M.heardE, h2]
    have e2 : m.heard d fr a = m := by simp [Aw.M.heard, e1]
    rw [e1, e2]
    exact heard_sleep m g d a tb fr w hm h2
  · have e1 : m.heardE d a = Aw.timesE d a := by simp [Aw.M.heardE, h2]
    rw [e1]
    by_cases hE : Aw.timesE d a = 0
    · have e2 : m.heard d fr a = m.hear d fr := by simp [Aw.M.heard, e1, hE]
      rw [e2, hE]
      have hd' : d < 4096 := by
        rw [Aw.timesE_eq] at hE
        split at hE
        · rename_i hh; have := hh.1; unfold Aw.in12 at this; simp at this; omega
        · cases hE
      by_cases h4 : m.state = 4
      · by_cases hd : 0 < d
        · exact heard_try2 m g d a tb fr w hm hi h2 hE h4 hd hd'
        · exact heard_try4 m g d a tb fr w hm hi h2 hE h4 hd
      · by_cases hd : 0 < d
        · exact heard_try1 m g d a tb fr w hm hi h2 hE h4 hd hd'
        · exact heard_try3 m g d a tb fr w hm hi h2 hE h4 hd
    · have e2 : m.heard d fr a = m := by simp [Aw.M.heard, e1, hE]
      have e3 : Aw.timesE d a = 15 := by unfold Aw.timesE at hE ⊢; split <;> simp_all
      rw [e2, e3]
      exact heard_bad m g d a tb fr w hm h2 e3
end Go.Proofs.Ytknjnpagbpjlkaa.AwD
