/- The walk over AwakePlays: the machine and the document's one are one, call by call. -/
import Derived.Test.YtknjnpagbpjlkaaAwF
import Derived.Test.YtknjnpagbpjlkaaAwS
import Derived.Test.YtknjnpagbpjlkaaAwU
import Derived.Test.YtknjnpagbpjlkaaAwV
import Derived.Deep.RegionHeld3
namespace Go.Proofs.Ytknjnpagbpjlkaa.AwPlays
open Go.RowKit Go.Proofs.Ytknjnpagbpjlkaa.Q Go.Proofs.Ytknjnpagbpjlkaa.Mem Go.Proofs.Ytknjnpagbpjlkaa.AwA Go.Proofs.Ytknjnpagbpjlkaa.AwB Go.Proofs.Ytknjnpagbpjlkaa.AwC Go.Proofs.Ytknjnpagbpjlkaa.AwD Go.Proofs.Ytknjnpagbpjlkaa.AwE Go.Proofs.Ytknjnpagbpjlkaa.AwF Go.Proofs.Ytknjnpagbpjlkaa.AwR Go.Proofs.Ytknjnpagbpjlkaa.AwS Go.Proofs.Ytknjnpagbpjlkaa.AwT Go.Proofs.Ytknjnpagbpjlkaa.AwU Go.Proofs.Ytknjnpagbpjlkaa.AwV


theorem alloc_below {w w1 : World} (h : Below w.heap.size w w1) (o : Obj) : Below w.heap.size w (w1.alloc o) := h.alloc h.size o
theorem ops_stay {w w' : World} {b o : Nat} {l : List OpD} (h : Ops w b o l) (hlt : b < w.heap.size) (hb : Below w.heap.size w w') : Ops w' b o l := fun i x hx j v hv => (hb.cell (p := ⟨b, o + i * 6 + j, none⟩) hlt).trans (h i x hx j v hv)
theorem ops_alloc {w : World} {b o : Nat} {l : List OpD} (h : Ops w b o l) (hlt : b < w.heap.size) (x : Obj) : Ops (w.alloc x) b o l := ops_stay h hlt ((Below.refl _ _).alloc (Nat.le_refl _) _)

theorem few_at {l : List OpD} (h : fewB l = true) {k : Nat} {x : OpD} (hx : l[k]? = some x) : ¬ (300 < x.n ∧ x.n ≤ 1048576) := by
  unfold fewB at h
  rw [Bool.and_eq_true, List.all_eq_true] at h
  have := h.1 x (List.mem_of_getElem? hx)
  simp only [Bool.not_eq_true', Bool.and_eq_false_iff, decide_eq_false_iff_not] at this
  omega

set_option maxHeartbeats 1000000 in
theorem plays_few (u g b p : Int) (lb lo cap : Nat) (l : List OpD) (w : World) (hl : l.length ≤ 9223372036854775807) (hlt : lb < w.heap.size) (hx : Ops w lb lo l) (hf : fewB l = false) :
        Calls Try.prog 3 #[.agg #[.int .i64 u, .int .i64 g, .int .i64 b, .int .i64 p], .slice (some ⟨lb, lo, none⟩) l.length cap] w fun e w' => e = .returned (.bool true) ∧ Below w.heap.size w w' := by
  have k0 := fun o => few_any lb lo cap l (w.alloc o) hl (ops_alloc hx hlt o)
  rw [hf] at k0
  clear hf hx
  go_enter Try.func3, Try.ntmps3
  go_wp2_with fail
  (with_reducible refine (k0 _).mono ?_); rintro e w1 ⟨rfl, rfl⟩
  clear k0
  go_wp2_with fail
  (with_reducible refine (example_any _).mono ?_); rintro e w1 ⟨rfl, b1⟩
  go_wp2
  go_ret
  exact ⟨rfl, (alloc_below (Below.refl _ _) _).trans (b1.mono (by simp))⟩


set_option maxHeartbeats 1000000 in
theorem plays_no (u g b p : Int)
    (hu : -9223372036854775808 ≤ u ∧ u ≤ 9223372036854775807) (hg : -9223372036854775808 ≤ g ∧ g ≤ 9223372036854775807) (hb : -9223372036854775808 ≤ b ∧ b ≤ 9223372036854775807) (hp : -9223372036854775808 ≤ p ∧ p ≤ 9223372036854775807)
    (lb lo cap : Nat) (l : List OpD) (w : World) (hl : l.length ≤ 9223372036854775807) (hlt : lb < w.heap.size) (hx : Ops w lb lo l) (hf : fewB l = true) (hc : Aw.cfg u g b p = false) :
        Calls Try.prog 3 #[.agg #[.int .i64 u, .int .i64 g, .int .i64 b, .int .i64 p], .slice (some ⟨lb, lo, none⟩) l.length cap] w fun e w' => e = .returned (.bool true) ∧ Below w.heap.size w w' := by
  have k0 := fun o => few_any lb lo cap l (w.alloc o) hl (ops_alloc hx hlt o)
  rw [hf] at k0
  have k1 := lmay_any u g b p
  rw [hc] at k1
  have k2 := check_any u g b p
  rw [show cfgE u g b p = 23 by unfold cfgE; rw [hc]; rfl] at k2
  have k3 := fun w => new_no u g b p w hu hg hb hp hc
  clear hf hx hc
  go_enter Try.func3, Try.ntmps3
  go_wp2_with fail
  (with_reducible refine (k0 _).mono ?_); rintro e w1 ⟨rfl, rfl⟩
  clear k0
  go_wp2_with fail
  (with_reducible refine (k3 _).mono ?_); rintro e w1 ⟨rfl, b1⟩
  have hbx : w.heap.size < w1.heap.size := by have := b1.size; simp at this; omega
  have q1 : Blk w1 w.heap.size 23 #[.int .i64 u, .int .i64 g, .int .i64 b, .int .i64 p] := Blk.below (Blk.new w _ _) b1 (by simp)
  have hb1 : Below w.heap.size w w1 := (alloc_below (Below.refl _ _) _).trans (b1.mono (by simp))
  have d0 := Blk.cell q1 0 (v := .int .i64 u) rfl
  have d1 := Blk.cell q1 1 (v := .int .i64 g) rfl
  have d2 := Blk.cell q1 2 (v := .int .i64 b) rfl
  have d3 := Blk.cell q1 3 (v := .int .i64 p) rfl
  clear b1 q1
  go_wp2_with fail
  (with_reducible refine (k1 _).mono ?_); rintro e w2 ⟨rfl, rfl⟩
  go_wp2_with fail
  (with_reducible refine (k2 _ hu hg hb hp).mono ?_); rintro e w2 ⟨rfl, rfl⟩
  go_wp2_with fail
  (with_reducible refine (example_any _).mono ?_); rintro e w3 ⟨rfl, b3⟩
  go_wp2
  go_ret
  exact ⟨rfl, (alloc_below (alloc_below hb1 _) _).trans (b3.mono (by have := hb1.size; simp; omega))⟩

/-- at a round's head: both machines are m -/
structure Both (w wr : World) (n r : Nat) (m : Aw.M) : Prop where
  a : At wr n m
  d : RAt wr r m
  i : m.Inv
  ne : n ≠ r
  n0 : w.heap.size ≤ n
  r0 : w.heap.size ≤ r
  b : Below w.heap.size w wr
theorem Both.alloc {w wr : World} {n r : Nat} {m : Aw.M} (h : Both w wr n r m) (o : Obj) : Both w (wr.alloc o) n r m :=
  ⟨Blk.alloc h.a o, Blk.alloc h.d o, h.i, h.ne, h.n0, h.r0, alloc_below h.b o⟩
theorem Both.drew {w wr : World} {n r : Nat} {m : Aw.M} (h : Both w wr n r m) : Both w wr.drew n r m :=
  ⟨Blk.drew h.a, Blk.drew h.d, h.i, h.ne, h.n0, h.r0, below_drewN h.b 1⟩
theorem Both.below {w wr w' : World} {n r : Nat} {m : Aw.M} (h : Both w wr n r m) (hb : Below wr.heap.size wr w') : Both w w' n r m :=
  ⟨Blk.below h.a hb (Blk.lt h.a), Blk.below h.d hb (Blk.lt h.d), h.i, h.ne, h.n0, h.r0, h.b.trans (hb.mono h.b.size)⟩
/-- one of the two has gone on -/
structure One (w wr : World) (n r : Nat) (m m' : Aw.M) : Prop where
  a : At wr n m'
  d : RAt wr r m
  i : m'.Inv
  i0 : m.Inv
  ne : n ≠ r
  n0 : w.heap.size ≤ n
  r0 : w.heap.size ≤ r
  b : Below w.heap.size w wr
theorem Both.left {w wr w' : World} {n r : Nat} {m m' : Aw.M} (h : Both w wr n r m) (t : Turned wr w' n m') (hi : m'.Inv) : One w w' n r m m' :=
  ⟨t.at_, Blk.grown h.d t.only (by intro e; injection e with e; exact h.ne e.symm), hi, h.i, h.ne, h.n0, h.r0, h.b.trans (below_of_only t.only h.b.size (fun k hk => by cases hk; exact h.n0))⟩
theorem One.right {w wr w' : World} {n r : Nat} {m m' : Aw.M} (h : One w wr n r m m') (t : RTurned wr w' r m') : Both w w' n r m' :=
  ⟨Blk.grown h.a t.only (by intro e; injection e with e; exact h.ne e), t.at_, h.i, h.ne, h.n0, h.r0, h.b.trans (below_of_only t.only h.b.size (fun k hk => by cases hk; exact h.r0))⟩
theorem One.step {w wr w' : World} {n r : Nat} {m m1 m' : Aw.M} (h : One w wr n r m m') (t : RTurned wr w' r m1) (hi : m1.Inv) : One w w' n r m1 m' :=
  ⟨Blk.grown h.a t.only (by intro e; injection e with e; exact h.ne e), t.at_, h.i, hi, h.ne, h.n0, h.r0, h.b.trans (below_of_only t.only h.b.size (fun k hk => by cases hk; exact h.r0))⟩
theorem One.end_ {w wr : World} {n r : Nat} {m : Aw.M} (h : One w wr n r m m) : Both w wr n r m := ⟨h.a, h.d, h.i, h.ne, h.n0, h.r0, h.b⟩

theorem tcells {W : World} {B9 : Nat} {k n d a : Int} {tb fr : Bool} (h : Blk W B9 39 #[.int .i64 k, .int .i64 n, .int .i64 d, .bool tb, .bool fr, .int .i64 a]) :
    W.cell? ⟨B9, 2, none⟩ = some (.int .i64 d) ∧ W.cell? ⟨B9, 3, none⟩ = some (.bool tb) ∧ W.cell? ⟨B9, 4, none⟩ = some (.bool fr) ∧ W.cell? ⟨B9, 5, none⟩ = some (.int .i64 a) :=
  ⟨Blk.cell h 2 rfl, Blk.cell h 3 rfl, Blk.cell h 4 rfl, Blk.cell h 5 rfl⟩
theorem tstay {W W' : World} {B9 g : Nat} {t : TypeId} {cs : Array Value} (h : Blk W B9 t cs) (t6 : W.grownBy W' (some g)) (hne : B9 ≠ g) : Blk W' B9 t cs := Blk.grown h t6 (by intro e; injection e with e; exact hne e)

theorem skip_okI (m : Aw.M) (g n : Nat) (w : World) {x : Int} (hq : x = n) (hm : At w g m) (hi : m.Inv) (hn : n ≤ 1048576) : Calls Try.prog 20 #[.pointer (some ⟨g, 0, none⟩), .int .i64 x] w fun e w' => e = .returned (.int .i64 0) ∧ Turned w w' g (m.steps n) := by
  rw [hq]; exact skip_ok m g n w hm hi hn
theorem forgets {w : World} {g : Nat} {m : Aw.M} (hm : RAt w g m) : RTurned w ((((w.setCell ⟨g, 5, none⟩ (.int .i64 1)).setCell ⟨g, 7, none⟩ (.bool false)).setCell ⟨g, 8, none⟩ (.int .i64 0)).setCell ⟨g, 9, none⟩ (.int .i64 0)) g m.reset :=
  ⟨(((Blk.set_ hm 5 (.int .i64 1)).set_ 7 (.bool false)).set_ 8 (.int .i64 0)).set_ 9 (.int .i64 0), only_set (only_set (only_set (only_set (only_refl _ _) _ _) _ _) _ _) _ _⟩


set_option maxRecDepth 100000 in
set_option maxHeartbeats 2000000 in
theorem plays_yes (u g b p : Int)
    (hu : -9223372036854775808 ≤ u ∧ u ≤ 9223372036854775807) (hg : -9223372036854775808 ≤ g ∧ g ≤ 9223372036854775807) (hb : -9223372036854775808 ≤ b ∧ b ≤ 9223372036854775807) (hp : -9223372036854775808 ≤ p ∧ p ≤ 9223372036854775807)
    (lb lo cap : Nat) (l : List OpD) (w : World) (hl : l.length ≤ 9223372036854775807) (hlt : lb < w.heap.size) (hx : Ops w lb lo l) (hf : fewB l = true) (hc : Aw.cfg u g b p = true) :
        Calls Try.prog 3 #[.agg #[.int .i64 u, .int .i64 g, .int .i64 b, .int .i64 p], .slice (some ⟨lb, lo, none⟩) l.length cap] w fun e w' => e = .returned (.bool true) ∧ Below w.heap.size w w' := by
  have k0 := fun o => few_any lb lo cap l (w.alloc o) hl (ops_alloc hx hlt o)
  rw [hf] at k0
  have k1 := lmay_any u g b p
  rw [hc] at k1
  have k2 := check_any u g b p
  rw [show cfgE u g b p = 0 by unfold cfgE; rw [hc]; rfl] at k2
  have k3 := fun w => new_ok u g b p w hu hg hb hp hc
  have hi := Aw.inv_start hc
  have HF := Lib.hid hf
  clear hf hc
  go_enter Try.func3, Try.ntmps3
  go_wp2_with fail
  (with_reducible refine (k0 _).mono ?_); rintro e w1 ⟨rfl, rfl⟩
  clear k0
  go_wp2_with fail
  (with_reducible refine (k3 _).mono ?_); rintro e w1 ⟨n, hn, rfl, hm, b1⟩
  have hn0 : w.heap.size < n := by simp at hn; omega
  have hbx : w.heap.size < w1.heap.size := by have := b1.size; simp at this; omega
  have q1 : Blk w1 w.heap.size 23 #[.int .i64 u, .int .i64 g, .int .i64 b, .int .i64 p] := Blk.below (Blk.new w _ _) b1 (by simp)
  have hb1 : Below w.heap.size w w1 := (alloc_below (Below.refl _ _) _).trans (b1.mono (by simp))
  have d0 := Blk.cell q1 0 (v := .int .i64 u) rfl
  have d1 := Blk.cell q1 1 (v := .int .i64 g) rfl
  have d2 := Blk.cell q1 2 (v := .int .i64 b) rfl
  have d3 := Blk.cell q1 3 (v := .int .i64 p) rfl
  clear b1 k3 hn
  go_wp2_with fail
  (with_reducible refine (k1 _).mono ?_); rintro e w2 ⟨rfl, rfl⟩
  clear k1
  go_wp2_with fail
  (with_reducible refine (of_any _ _ _ _ _).mono ?_); rintro e w3 ⟨r, hr, rfl, hd, b3⟩
  clear d0 d1 d2 d3
  have q3 := Blk.below (Blk.alloc q1 _) b3 (by simp; omega)
  have hm3 : At w3 n (Aw.start u g b p) := Blk.below (Blk.alloc hm _) b3 (by have := Blk.lt hm; simp; omega)
  have hn1 : n < w1.heap.size := Blk.lt hm
  have hnr : n ≠ r := by simp at hr; omega
  have hB3 : Both w w3 n r (Aw.start u g b p) := ⟨hm3, hd, hi, hnr, by omega, by have := hb1.size; simp at hr; omega, (alloc_below hb1 _).trans (b3.mono (by have := hb1.size; simp; omega))⟩
  clear b3 hm hm3 hd hb1 q1 hi
  have d0 := Blk.cell q3 0 (v := .int .i64 u) rfl
  have d1 := Blk.cell q3 1 (v := .int .i64 g) rfl
  have d2 := Blk.cell q3 2 (v := .int .i64 b) rfl
  have d3 := Blk.cell q3 3 (v := .int .i64 p) rfl
  go_wp2_with fail
  (with_reducible refine (k2 _ hu hg hb hp).mono ?_); rintro e w4 ⟨rfl, rfl⟩
  clear d0 d1 d2 d3 k2 hr hnr hn1 q3
  go_wp2_with fail
  have hB4 := fun o => hB3.alloc o
  (with_reducible refine (same_any (Aw.start u g b p) n r _ (hB4 _).a (hB4 _).d).mono ?_); rintro e w5 ⟨rfl, b5⟩
  have hB5 := (hB4 _).below b5
  clear hB4 hB3 b5
  go_wp2_with fail
  go_loopw [8] (fun i wr => ∃ (k : Nat) (m : Aw.M), k ≤ l.length ∧ i = .int .i64 k ∧ Both w wr n r m) (fun i _ => l.length - (intOf i).toNat)
  case atStart => exact ⟨0, _, Nat.zero_le _, rfl, hB5⟩
  case round =>
    obtain ⟨k, m, hk, rfl, hB⟩ := hrel
    clear hB5
    by_cases hkl : k < l.length
    · obtain ⟨x, hxk⟩ : ∃ x, l[k]? = some x := ⟨_, List.getElem?_eq_getElem hkl⟩
      have hw := ops_stay hx hlt hB.b
      have c0 : wr.cell? ⟨lb, lo + k * 6, none⟩ = some (.int .i64 x.ask) := hw k x hxk 0 _ rfl
      have c1 := hw k x hxk 1 _ rfl
      have c2 := hw k x hxk 2 _ rfl
      have c3 := hw k x hxk 3 _ rfl
      have c4 := hw k x hxk 4 _ rfl
      have c5 := hw k x hxk 5 _ rfl
      have hfx := few_at HF.out hxk
      have HX := Lib.hid hxk
      clear hw hxk hx
      by_cases a0 : x.ask = 0
      · have e0 : (x.ask == 0) = true := by simpa using a0
        clear a0
        go_wp2_with fail
        (with_reducible refine (next_any m n _ (hB.alloc _).a hB.i).mono ?_); rintro e w6 ⟨rfl, t6⟩
        have hO := (hB.alloc _).left t6 (Aw.next_inv m hB.i)
        clear hB t6
        go_wp2_with fail
        (with_reducible refine (rnext_any m r _ hO.d hO.i0).mono ?_); rintro e w7 ⟨rfl, t7⟩
        have hB7 := hO.right t7
        clear hO t7
        clear c0 c1 c2 c3 c4 c5 hfx e0 HX
        go_wp2_with fail
        (with_reducible refine (same_any _ n r _ hB7.a hB7.d).mono ?_); rintro e w8 ⟨rfl, b8⟩
        have hB8 := hB7.below b8
        clear hB7 b8
        go_wp2_with fail
        go_roundw
        case rel => exact ⟨k + 1, _, by omega, by go_num, hB8⟩
        case measure => simp [intOf]; omega
      by_cases a1 : x.ask = 1
      · have e0 : (x.ask == 0) = false := by simpa using a0
        have e1 : (x.ask == 1) = true := by simpa using a1
        clear a0 a1
        go_wp2_with fail
        clear c0 c1 c2 c3 c4 c5 hfx e0 e1 HX
        have hBa := (hB.alloc (.cells #[.int .i64 x.ask, .int .i64 x.n, .int .i64 x.d, .bool x.tb, .bool x.fr, .int .i64 x.a] 39)).drew
        have q9 := Blk.drew (Blk.new wr 39 #[.int .i64 x.ask, .int .i64 x.n, .int .i64 x.d, .bool x.tb, .bool x.fr, .int .i64 x.a])
        have n9 : wr.heap.size ≠ n := by have := Blk.lt hB.a; omega
        have r9 : wr.heap.size ≠ r := by have := Blk.lt hB.d; omega
        have cc := tcells q9
        obtain ⟨g2, g3, g4, g5⟩ := cc
        go_region_held3 (fun w' => w'.cell? ⟨wr.heap.size, 2, none⟩ = some (.int .i64 x.d) ∧ w'.cell? ⟨wr.heap.size, 3, none⟩ = some (.bool x.tb) ∧ w'.cell? ⟨wr.heap.size, 4, none⟩ = some (.bool x.fr) ∧ w'.cell? ⟨wr.heap.size, 5, none⟩ = some (.int .i64 x.a)) (first | exact ⟨g2, g3, g4, g5⟩ | exact tcells (tstay q9 t6.only n9) | exact tcells (tstay (tstay q9 t6.only n9) t7.only r9)) (first | (go_at_call 18; refine (heard_any m n x.d x.a x.tb x.fr _ hBa.a hBa.i).mono ?_; rintro e w6 ⟨rfl, t6⟩) | (go_at_call 19; refine (rheard_any m r x.d x.a x.tb x.fr _ (hBa.left t6 (Aw.heard_inv m hBa.i _ _ _)).d hBa.i).mono ?_; rintro e w7 ⟨rfl, t7⟩))
        have hB7 := (hBa.left t6 (Aw.heard_inv m hBa.i _ _ _)).right t7
        clear hBa hB t6 t7 q9 n9 r9 g2 g3 g4 g5
        go_wp2_with fail
        (with_reducible refine (same_any _ n r _ hB7.a hB7.d).mono ?_); rintro e w8 ⟨rfl, b8⟩
        have hB8 := hB7.below b8
        clear hB7 b8
        go_wp2_with fail
        go_roundw
        case rel => exact ⟨k + 1, _, by omega, by go_num, hB8⟩
        case measure => simp [intOf]; omega
      by_cases a2 : x.ask = 2
      · have e0 : (x.ask == 0) = false := by simpa using a0
        have e1 : (x.ask == 1) = false := by simpa using a1
        have e2 : (x.ask == 2) = true := by simpa using a2
        clear a0 a1 a2
        go_wp2_with fail
        clear c0 c1 c2 c3 c4 c5 e0 e1 e2 HX
        have hBa := hB.alloc (.cells #[.int .i64 x.ask, .int .i64 x.n, .int .i64 x.d, .bool x.tb, .bool x.fr, .int .i64 x.a] 39)
        have q9 := Blk.new wr 39 #[.int .i64 x.ask, .int .i64 x.n, .int .i64 x.d, .bool x.tb, .bool x.fr, .int .i64 x.a]
        have n9 : wr.heap.size ≠ n := by have := Blk.lt hB.a; omega
        have r9 : wr.heap.size ≠ r := by have := Blk.lt hB.d; omega
        by_cases hn : 0 ≤ x.n ∧ x.n ≤ 1048576
        · obtain ⟨q, hq⟩ : ∃ q : Nat, x.n = q := ⟨x.n.toNat, by omega⟩
          (with_reducible refine (skip_okI m n q _ hq hBa.a hBa.i (by omega)).mono ?_); rintro e w6 ⟨rfl, t6⟩
          have hO := hBa.left t6 (Aw.steps_inv m hBa.i q)
          have q6 := tstay q9 t6.only n9
          have g1 := Blk.cell q6 1 (v := .int .i64 x.n) rfl
          clear hB hBa t6
          have d0 : decide (0 ≤ x.n) = true := by simp; omega
          have d1 : decide (x.n ≤ 300) = true := by simp; omega
          go_wp2_with fail
          obtain ⟨wo, rfl⟩ : ∃ wo : World, wo = wr := ⟨_, rfl⟩
          clear g1
          go_loopw [11] (fun i wi => ∃ j : Nat, j ≤ q ∧ i = .int .i64 j ∧ One w wi n r (m.steps j) (m.steps q) ∧ Blk wi wo.heap.size 39 #[.int .i64 x.ask, .int .i64 x.n, .int .i64 x.d, .bool x.tb, .bool x.fr, .int .i64 x.a]) (fun i _ => q - (intOf i).toNat)
          case atStart => exact ⟨0, Nat.zero_le _, rfl, hO, q6⟩
          case round =>
            obtain ⟨j, hj, rfl, hO, q6⟩ := hrel
            have g1 := Blk.cell q6 1 (v := .int .i64 x.n) rfl
            by_cases hjq : j < q
            · have d2 : decide ((j : Int) < x.n) = true := by simp; omega
              go_wp2_with fail
              (with_reducible refine (rnext_any (m.steps j) r _ hO.d hO.i0).mono ?_); rintro e w7 ⟨rfl, t7⟩
              have hO7 := hO.step t7 (Aw.next_inv _ hO.i0)
              have q7 := tstay q6 t7.only r9
              clear hO t7 q6 g1 d0 d1 d2
              go_wp2_with fail
              go_roundw
              case rel => exact ⟨j + 1, by omega, by go_num, hO7, q7⟩
              case measure => simp [intOf]; omega
            · obtain rfl : j = q := by omega
              have d2 : decide ((j : Int) < x.n) = false := by simp; omega
              go_wp2_with fail
              have hB7 := hO.end_
              clear hO q6 g1 d0 d1 d2 hfx
              go_wp2_with fail
              (with_reducible refine (same_any _ n r _ hB7.a hB7.d).mono ?_); rintro e w8 ⟨rfl, b8⟩
              have hB8 := hB7.below b8
              clear hB7 b8
              go_wp2_with fail
              go_roundw
              case rel => exact ⟨k + 1, _, by omega, by go_num, hB8⟩
              case measure => simp [intOf]; omega
        · (with_reducible refine (skip_bad m n x.n _ hBa.a hn).mono ?_); rintro e w6 ⟨rfl, t6⟩
          have hB7 := (hBa.left t6 hBa.i).end_
          have q6 := tstay q9 t6.only n9
          have g1 := Blk.cell q6 1 (v := .int .i64 x.n) rfl
          clear hB hBa t6
          by_cases hn0 : 0 ≤ x.n
          · have d0 : decide (0 ≤ x.n) = true := by simpa using hn0
            have d1 : decide (x.n ≤ 300) = false := by simp; omega
            have d2 : decide (0 < x.n) = true := by simp; omega
            go_wp2_with fail
            obtain ⟨wo, rfl⟩ : ∃ wo : World, wo = wr := ⟨_, rfl⟩
            go_loop [11] (fun i => i = .int .i64 0) (fun _ => 0)
            case atStart => exact rfl
            case round =>
              obtain rfl := hrel
              go_wp2_with fail
              clear q6 g1 d0 d1 d2 hfx
              go_wp2_with fail
              (with_reducible refine (same_any _ n r _ hB7.a hB7.d).mono ?_); rintro e w8 ⟨rfl, b8⟩
              have hB8 := hB7.below b8
              clear hB7 b8
              go_wp2_with fail
              go_roundw
              case rel => exact ⟨k + 1, _, by omega, by go_num, hB8⟩
              case measure => simp [intOf]; omega
          · have d0 : decide (0 ≤ x.n) = false := by simpa using hn0
            have d2 : decide (0 < x.n) = false := by simp; omega
            go_wp2_with fail
            obtain ⟨wo, rfl⟩ : ∃ wo : World, wo = wr := ⟨_, rfl⟩
            go_loop [11] (fun i => i = .int .i64 0) (fun _ => 0)
            case atStart => exact rfl
            case round =>
              obtain rfl := hrel
              go_wp2_with fail
              clear q6 g1 d0 d2 hfx
              go_wp2_with fail
              (with_reducible refine (same_any _ n r _ hB7.a hB7.d).mono ?_); rintro e w8 ⟨rfl, b8⟩
              have hB8 := hB7.below b8
              clear hB7 b8
              go_wp2_with fail
              go_roundw
              case rel => exact ⟨k + 1, _, by omega, by go_num, hB8⟩
              case measure => simp [intOf]; omega
      · have e0 : (x.ask == 0) = false := by simpa using a0
        have e1 : (x.ask == 1) = false := by simpa using a1
        have e2 : (x.ask == 2) = false := by simpa using a2
        clear a0 a1 a2
        go_wp2_with fail
        clear c0 c1 c2 c3 c4 c5 e0 e1 e2 HX hfx
        (with_reducible refine (reset_any m n _ (hB.alloc _).a).mono ?_); rintro e w6 ⟨rfl, t6⟩
        have hO := (hB.alloc _).left t6 (Aw.reset_inv m hB.i)
        clear hB t6
        have c5 := Blk.cell hO.d 5 (v := .int .i64 m.state) rfl
        have c7 := Blk.cell hO.d 7 (v := .bool (kn m)) rfl
        have c8 := Blk.cell hO.d 8 (v := .int .i64 m.wake) rfl
        have c9 := Blk.cell hO.d 9 (v := .int .i64 m.last) rfl
        have z5 := Blk.frozen hO.d 5
        have z7 := Blk.frozen hO.d 7
        have z8 := Blk.frozen hO.d 8
        have z9 := Blk.frozen hO.d 9
        have hB7 := hO.right (forgets hO.d)
        clear hO
        go_wp2_with fail
        (with_reducible refine (same_any _ n r _ hB7.a hB7.d).mono ?_); rintro e w8 ⟨rfl, b8⟩
        have hB8 := hB7.below b8
        clear hB7 b8
        go_wp2_with fail
        go_roundw
        case rel => exact ⟨k + 1, _, by omega, by go_num, hB8⟩
        case measure => simp [intOf]; omega
    · obtain rfl : k = l.length := by omega
      go_wp2_with fail
      (with_reducible refine (example_any _).mono ?_); rintro e w6 ⟨rfl, b6⟩
      go_wp2
      go_ret
      exact ⟨rfl, hB.b.trans (b6.mono hB.b.size)⟩
end Go.Proofs.Ytknjnpagbpjlkaa.AwPlays
