/- The walk over AwakeLong. -/
import Derived.Test.YtknjnpagbpjlkaaAwF
import Derived.Test.YtknjnpagbpjlkaaAwPlain2
import Derived.Test.YtknjnpagbpjlkaaAwV
import Derived.Deep.RegionHeld3
namespace Go.Proofs.Ytknjnpagbpjlkaa.AwLong
open Go.RowKit Go.Proofs.Ytknjnpagbpjlkaa.Q Go.Proofs.Ytknjnpagbpjlkaa.Mem Go.Proofs.Ytknjnpagbpjlkaa.AwA Go.Proofs.Ytknjnpagbpjlkaa.AwB Go.Proofs.Ytknjnpagbpjlkaa.AwC Go.Proofs.Ytknjnpagbpjlkaa.AwD Go.Proofs.Ytknjnpagbpjlkaa.AwE Go.Proofs.Ytknjnpagbpjlkaa.AwF Go.Proofs.Ytknjnpagbpjlkaa.AwR Go.Proofs.Ytknjnpagbpjlkaa.AwT Go.Proofs.Ytknjnpagbpjlkaa.AwV


theorem alloc_below {w w1 : World} (h : Below w.heap.size w w1) (o : Obj) : Below w.heap.size w (w1.alloc o) := h.alloc h.size o

set_option maxHeartbeats 1000000 in
theorem long_no1 (u g b p d a n m : Int) (tb fr : Bool) (w : World) (hc : Aw.cfg u g b p = false) :
        Calls Try.prog 8 #[.agg #[.int .i64 u, .int .i64 g, .int .i64 b, .int .i64 p], .agg #[.int .i64 d, .bool tb, .bool fr, .int .i64 a], .agg #[.int .i64 n, .int .i64 m]] w fun e w' => e = .returned (.bool true) ∧ Below w.heap.size w w' := by
    have k1 := lmay_any u g b p
    go_enter Try.func8, Try.ntmps8
    go_wp2_with fail
    (with_reducible refine (k1 _).mono ?_); rintro e w1 ⟨rfl, rfl⟩
    go_wp2_with fail
    (with_reducible refine (example_any _).mono ?_); rintro e w2 ⟨rfl, b2⟩
    go_wp2
    go_ret
    exact ⟨rfl, (alloc_below (alloc_below (alloc_below (alloc_below (Below.refl _ _) _) _) _) _).trans (b2.mono (by simp <;> omega))⟩
set_option maxHeartbeats 1000000 in
theorem long_no2 (u g b p d a n m : Int) (tb fr : Bool) (w : World) (hc : Aw.cfg u g b p = true) (h : decide (n < 0) = true) :
        Calls Try.prog 8 #[.agg #[.int .i64 u, .int .i64 g, .int .i64 b, .int .i64 p], .agg #[.int .i64 d, .bool tb, .bool fr, .int .i64 a], .agg #[.int .i64 n, .int .i64 m]] w fun e w' => e = .returned (.bool true) ∧ Below w.heap.size w w' := by
    have k1 := lmay_any u g b p
    go_enter Try.func8, Try.ntmps8
    go_wp2_with fail
    (with_reducible refine (k1 _).mono ?_); rintro e w1 ⟨rfl, rfl⟩
    go_wp2_with fail
    (with_reducible refine (example_any _).mono ?_); rintro e w2 ⟨rfl, b2⟩
    go_wp2
    go_ret
    exact ⟨rfl, (alloc_below (alloc_below (alloc_below (alloc_below (Below.refl _ _) _) _) _) _).trans (b2.mono (by simp <;> omega))⟩
set_option maxHeartbeats 1000000 in
theorem long_no3 (u g b p d a n m : Int) (tb fr : Bool) (w : World) (hc : Aw.cfg u g b p = true) (h : decide (n < 0) = false) (h2 : decide (300 < n) = true) :
        Calls Try.prog 8 #[.agg #[.int .i64 u, .int .i64 g, .int .i64 b, .int .i64 p], .agg #[.int .i64 d, .bool tb, .bool fr, .int .i64 a], .agg #[.int .i64 n, .int .i64 m]] w fun e w' => e = .returned (.bool true) ∧ Below w.heap.size w w' := by
    have k1 := lmay_any u g b p
    go_enter Try.func8, Try.ntmps8
    go_wp2_with fail
    (with_reducible refine (k1 _).mono ?_); rintro e w1 ⟨rfl, rfl⟩
    go_wp2_with fail
    (with_reducible refine (example_any _).mono ?_); rintro e w2 ⟨rfl, b2⟩
    go_wp2
    go_ret
    exact ⟨rfl, (alloc_below (alloc_below (alloc_below (alloc_below (Below.refl _ _) _) _) _) _).trans (b2.mono (by simp <;> omega))⟩
set_option maxHeartbeats 1000000 in
theorem long_no4 (u g b p d a n m : Int) (tb fr : Bool) (w : World) (hc : Aw.cfg u g b p = true) (h : decide (n < 0) = false) (h2 : decide (300 < n) = false) (h3 : decide (m < 0) = true) :
        Calls Try.prog 8 #[.agg #[.int .i64 u, .int .i64 g, .int .i64 b, .int .i64 p], .agg #[.int .i64 d, .bool tb, .bool fr, .int .i64 a], .agg #[.int .i64 n, .int .i64 m]] w fun e w' => e = .returned (.bool true) ∧ Below w.heap.size w w' := by
    have k1 := lmay_any u g b p
    go_enter Try.func8, Try.ntmps8
    go_wp2_with fail
    (with_reducible refine (k1 _).mono ?_); rintro e w1 ⟨rfl, rfl⟩
    go_wp2_with fail
    (with_reducible refine (example_any _).mono ?_); rintro e w2 ⟨rfl, b2⟩
    go_wp2
    go_ret
    exact ⟨rfl, (alloc_below (alloc_below (alloc_below (alloc_below (Below.refl _ _) _) _) _) _).trans (b2.mono (by simp <;> omega))⟩
set_option maxHeartbeats 1000000 in
theorem long_no5 (u g b p d a n m : Int) (tb fr : Bool) (w : World) (hc : Aw.cfg u g b p = true) (h : decide (n < 0) = false) (h2 : decide (300 < n) = false) (h3 : decide (m < 0) = false) (h4 : decide (300 < m) = true) :
        Calls Try.prog 8 #[.agg #[.int .i64 u, .int .i64 g, .int .i64 b, .int .i64 p], .agg #[.int .i64 d, .bool tb, .bool fr, .int .i64 a], .agg #[.int .i64 n, .int .i64 m]] w fun e w' => e = .returned (.bool true) ∧ Below w.heap.size w w' := by
    have k1 := lmay_any u g b p
    go_enter Try.func8, Try.ntmps8
    go_wp2_with fail
    (with_reducible refine (k1 _).mono ?_); rintro e w1 ⟨rfl, rfl⟩
    go_wp2_with fail
    (with_reducible refine (example_any _).mono ?_); rintro e w2 ⟨rfl, b2⟩
    go_wp2
    go_ret
    exact ⟨rfl, (alloc_below (alloc_below (alloc_below (alloc_below (Below.refl _ _) _) _) _) _).trans (b2.mono (by simp <;> omega))⟩

theorem skip_okI (m : Aw.M) (g n : Nat) (w : World) {x : Int} (hq : x = n) (hm : At w g m) (hi : m.Inv) (hn : n ≤ 1048576) : Calls Try.prog 20 #[.pointer (some ⟨g, 0, none⟩), .int .i64 x] w fun e w' => e = .returned (.int .i64 0) ∧ Turned w w' g (m.steps n) := by
  rw [hq]; exact skip_ok m g n w hm hi hn
theorem tcells {W : World} {B : Nat} {d a : Int} {tb fr : Bool} (h : Blk W B 37 #[.int .i64 d, .bool tb, .bool fr, .int .i64 a]) :
    W.cell? ⟨B, 0, none⟩ = some (.int .i64 d) ∧ W.cell? ⟨B, 1, none⟩ = some (.bool tb) ∧ W.cell? ⟨B, 2, none⟩ = some (.bool fr) ∧ W.cell? ⟨B, 3, none⟩ = some (.int .i64 a) :=
  ⟨Blk.cell h 0 rfl, Blk.cell h 1 rfl, Blk.cell h 2 rfl, Blk.cell h 3 rfl⟩
theorem tstay {W W' : World} {B9 g : Nat} {t : TypeId} {cs : Array Value} (h : Blk W B9 t cs) (t6 : W.grownBy W' (some g)) (hne : B9 ≠ g) : Blk W' B9 t cs := Blk.grown h t6 (by intro e; injection e with e; exact hne e)
theorem bturn {w W W' : World} {g : Nat} {m : Aw.M} (h : Below w.heap.size w W) (t : Turned W W' g m) (hg : w.heap.size ≤ g) : Below w.heap.size w W' := h.trans (below_of_only t.only h.size (fun k hk => by cases hk; exact hg))

/-- the two machines, and the three boxes -/
structure Two (w W : World) (s ga gb : Nat) (A B : Aw.M) (u g b p d a n m : Int) (tb fr : Bool) : Prop where
  xa : At W ga A
  xb : At W gb B
  xc : Blk W s 23 #[.int .i64 u, .int .i64 g, .int .i64 b, .int .i64 p]
  xt : Blk W (s + 1) 37 #[.int .i64 d, .bool tb, .bool fr, .int .i64 a]
  xn : s + 2 < ga
  xne : ga < gb
  w0 : w.heap.size = s
  be : Below w.heap.size w W
section
variable {w W W' : World} {s ga gb : Nat} {A B X : Aw.M} {u g b p d a n m : Int} {tb fr : Bool}
theorem Two.left (h : Two w W s ga gb A B u g b p d a n m tb fr) (t : Turned W W' ga X) : Two w W' s ga gb X B u g b p d a n m tb fr :=
  ⟨t.at_, tstay h.xb t.only (by have := h.xne; omega), tstay h.xc t.only (by have := h.xn; omega), tstay h.xt t.only (by have := h.xn; omega), h.xn, h.xne, h.w0, bturn h.be t (by have := h.xn; have := h.w0; omega)⟩
theorem Two.right (h : Two w W s ga gb A B u g b p d a n m tb fr) (t : Turned W W' gb X) : Two w W' s ga gb A X u g b p d a n m tb fr :=
  ⟨tstay h.xa t.only (by have := h.xne; omega), t.at_, tstay h.xc t.only (by have := h.xn; have := h.xne; omega), tstay h.xt t.only (by have := h.xn; have := h.xne; omega), h.xn, h.xne, h.w0, bturn h.be t (by have := h.xn; have := h.w0; have := h.xne; omega)⟩
theorem Two.below (h : Two w W s ga gb A B u g b p d a n m tb fr) (hb : Below W.heap.size W W') : Two w W' s ga gb A B u g b p d a n m tb fr :=
  ⟨Blk.below h.xa hb (Blk.lt h.xa), Blk.below h.xb hb (Blk.lt h.xb), Blk.below h.xc hb (Blk.lt h.xc), Blk.below h.xt hb (Blk.lt h.xt), h.xn, h.xne, h.w0, h.be.trans (hb.mono h.be.size)⟩
theorem Two.drew (h : Two w W s ga gb A B u g b p d a n m tb fr) : Two w W.drew s ga gb A B u g b p d a n m tb fr :=
  ⟨Blk.drew h.xa, Blk.drew h.xb, Blk.drew h.xc, Blk.drew h.xt, h.xn, h.xne, h.w0, below_drewN h.be 1⟩
end

theorem check_below (u g b p : Int) (w : World) (hu : -9223372036854775808 ≤ u ∧ u ≤ 9223372036854775807) (hg : -9223372036854775808 ≤ g ∧ g ≤ 9223372036854775807) (hb : -9223372036854775808 ≤ b ∧ b ≤ 9223372036854775807) (hp : -9223372036854775808 ≤ p ∧ p ≤ 9223372036854775807) (hc : Aw.cfg u g b p = true) :
    Calls Try.prog 13 #[.agg #[.int .i64 u, .int .i64 g, .int .i64 b, .int .i64 p]] w fun e w' => e = .returned (.int .i64 0) ∧ Below w.heap.size w w' := by
  have k2 := check_any u g b p w hu hg hb hp
  rw [show cfgE u g b p = 0 by unfold cfgE; rw [hc]; rfl] at k2
  refine k2.mono ?_
  rintro e w' ⟨rfl, rfl⟩
  exact ⟨rfl, alloc_below (Below.refl _ _) _⟩

set_option maxRecDepth 100000 in
set_option maxHeartbeats 4000000 in
theorem long_yes (u g b p d a : Int) (n m : Nat) (tb fr : Bool) (w : World)
    (hu : -9223372036854775808 ≤ u ∧ u ≤ 9223372036854775807) (hg : -9223372036854775808 ≤ g ∧ g ≤ 9223372036854775807) (hb : -9223372036854775808 ≤ b ∧ b ≤ 9223372036854775807) (hp : -9223372036854775808 ≤ p ∧ p ≤ 9223372036854775807)
    (hc : Aw.cfg u g b p = true) (hn : n ≤ 300) (hm : m ≤ 300) :
        Calls Try.prog 8 #[.agg #[.int .i64 u, .int .i64 g, .int .i64 b, .int .i64 p], .agg #[.int .i64 d, .bool tb, .bool fr, .int .i64 a], .agg #[.int .i64 (n : Int), .int .i64 (m : Int)]] w fun e w' => e = .returned (.bool true) ∧ Below w.heap.size w w' := by
  have k1 := lmay_any u g b p
  rw [hc] at k1
  have k2 := fun w => check_below u g b p w hu hg hb hp hc
  have k3 := fun w => new_ok u g b p w hu hg hb hp hc
  have hi := Aw.inv_start hc
  have e1 : decide ((n : Int) < 0) = false := by simp
  have e2 : decide (300 < (n : Int)) = false := by simp; omega
  have e3 : decide ((m : Int) < 0) = false := by simp
  have e4 : decide (300 < (m : Int)) = false := by simp; omega
  have f4 : ∀ (x0 x1 x2 x3 x4 x5 : Value) w, (Instr.field 50 (.agg #[x0, x1, x2, x3, x4, x5]) 4).run Try.prog w = .ok x4 w := fun _ _ _ _ _ _ _ => by kernel_rfl
  clear hc
  go_enter Try.func8, Try.ntmps8
  go_wp2_with fail
  (with_reducible refine (k1 _).mono ?_); rintro e w1 ⟨rfl, rfl⟩
  go_wp2_with fail
  clear k1 e1 e2 e3 e4
  (with_reducible refine (k3 _).mono ?_); rintro e w1 ⟨ga, hga, rfl, ma, b1⟩
  have qc : Blk w1 w.heap.size 23 #[.int .i64 u, .int .i64 g, .int .i64 b, .int .i64 p] := Blk.below (Blk.alloc (Blk.alloc (Blk.alloc (Blk.new w _ _) _) _) _) b1 (by simp <;> omega)
  have qt : Blk w1 (w.heap.size + 1) 37 #[.int .i64 d, .bool tb, .bool fr, .int .i64 a] := Blk.below (Blk.alloc (Blk.alloc (Blk.newAt _ _ _ (by simp)) _) _) b1 (by simp <;> omega)
  have hb1 : Below w.heap.size w w1 := (alloc_below (alloc_below (alloc_below (alloc_below (Below.refl _ _) _) _) _) _).trans (b1.mono (by simp <;> omega))
  have hga0 : w.heap.size + 2 < ga := by simp at hga; omega
  have d0 := Blk.cell qc 0 (v := .int .i64 u) rfl
  have d1 := Blk.cell qc 1 (v := .int .i64 g) rfl
  have d2 := Blk.cell qc 2 (v := .int .i64 b) rfl
  have d3 := Blk.cell qc 3 (v := .int .i64 p) rfl
  clear b1 hga
  go_wp2_with fail
  clear d0 d1 d2 d3
  (with_reducible refine (k3 _).mono ?_); rintro e w2 ⟨gb, hgb, rfl, mb, b2⟩
  have hT : Two w w2 w.heap.size ga gb (Aw.start u g b p) (Aw.start u g b p) u g b p d a n m tb fr :=
    ⟨Blk.below ma b2 (Blk.lt ma), mb, Blk.below qc b2 (Blk.lt qc), Blk.below qt b2 (Blk.lt qt), hga0, by have := Blk.lt ma; omega, rfl, hb1.trans (b2.mono hb1.size)⟩
  clear ma mb qc qt hb1 b2 hga0 hgb k3
  go_wp2_with fail
  obtain ⟨g0, g1, g2, g3⟩ := tcells hT.drew.xt
  go_region_held3 (fun w' => w'.cell? ⟨w.heap.size + 1, 0, none⟩ = some (.int .i64 d) ∧ w'.cell? ⟨w.heap.size + 1, 1, none⟩ = some (.bool tb) ∧ w'.cell? ⟨w.heap.size + 1, 2, none⟩ = some (.bool fr) ∧ w'.cell? ⟨w.heap.size + 1, 3, none⟩ = some (.int .i64 a)) (first | exact ⟨g0, g1, g2, g3⟩ | exact tcells (hT.drew.left t6).xt | exact tcells ((hT.drew.left t6).right t7).xt) (first | (go_at_call 18; with_reducible refine (heard_any _ ga d a tb fr _ hT.drew.xa hi).mono ?_; rintro e w6 ⟨rfl, t6⟩) | (go_at_call 18; with_reducible refine (heard_any _ gb d a tb fr _ (hT.drew.left t6).xb hi).mono ?_; rintro e w7 ⟨rfl, t7⟩))
  have h7 := (hT.drew.left t6).right t7
  clear hT t6 t7 g0 g1 g2 g3
  obtain ⟨A, hA⟩ : ∃ A, (Aw.start u g b p).heard d fr a = A := ⟨_, rfl⟩
  have iA : A.Inv := by rw [← hA]; exact Aw.heard_inv _ hi _ _ _
  have nA : A.now = 0 := by rw [← hA]; exact (Aw.heard_keeps _ d a fr).1
  have sA : A.spent = 0 := by rw [← hA]; exact (Aw.heard_keeps _ d a fr).2.1
  obtain ⟨X, hX⟩ : ∃ X, A.steps n = X := ⟨_, rfl⟩
  obtain ⟨Y, hY⟩ : ∃ Y, A.steps (n + m) = Y := ⟨_, rfl⟩
  have iX : X.Inv := by rw [← hX]; exact Aw.steps_inv _ iA _
  have hXY : X.steps m = Y := by rw [← hX, ← hY]; exact Aw.steps_add _ _ _
  have sX : 0 ≤ X.spent ∧ X.spent ≤ n := by have := Aw.steps_spent A n; rw [hX] at this; omega
  have sY : X.spent ≤ Y.spent ∧ Y.spent ≤ X.spent + m := by have := Aw.steps_spent X m; rw [hXY] at this; omega
  have nY : Y.now = (n : Int) + m := by have := Aw.steps_now A (n + m) (by omega); rw [hY] at this; rw [this]; omega
  rw [hA] at h7
  have HY := Lib.hid hY
  have HN := Lib.hid nY
  have HX := Lib.hid hX
  have HXY := Lib.hid hXY
  clear hA nA sA hY nY hX hXY
  go_wp2_with fail
  (with_reducible refine (skip_ok A ga n _ h7.xa iA (by omega)).mono ?_); rintro e w8 ⟨rfl, t8⟩
  rw [HX.out] at t8
  have h8 := h7.left t8
  clear h7 t8
  go_wp2_with fail
  have ks := fun w h => stat_any X ga w h
  unfold stat at ks
  (with_reducible refine (ks _ h8.xa).mono ?_); rintro e w9 ⟨rfl, b9⟩
  have h9 := h8.below b9
  clear h8 b9 ks
  go_wp2_with fail
  (with_reducible refine (skip_ok X ga m _ h9.xa iX (by omega)).mono ?_); rintro e w10 ⟨rfl, t10⟩
  rw [HXY.out] at t10
  have h10 := h9.left t10
  clear h9 t10
  go_wp2_with fail
  (with_reducible refine (skip_okI A gb (n + m) _ (Int.natCast_add n m).symm h10.xb iA (by omega)).mono ?_); rintro e w11 ⟨rfl, t11⟩
  rw [HY.out] at t11
  have h11 := h10.right t11
  clear h10 t11
  go_wp2_with fail
  have ks := fun g w h => stat_any Y g w h
  unfold stat at ks
  rw [HN.out] at ks
  (with_reducible refine (ks ga _ h11.xa).mono ?_); rintro e w12 ⟨rfl, b12⟩
  have h12 := h11.below b12
  clear h11 b12
  clear HX HY iX HXY HN hi iA
  have f1 : decide (X.spent ≤ Y.spent) = true := by simp; omega
  have f2 : decide (Y.spent - X.spent ≤ (m : Int)) = true := by simp; omega
  have f3 : decide (X.spent ≤ (n : Int)) = true := by simp; omega
  go_wp2_with fail
  refine wp_gen (fun W => Two w W w.heap.size ga gb Y Y u g b p d a n m tb fr ∧ Blk W w12.heap.size 50 #[.int .i64 (n + m), .int .i64 Y.state, .int .i64 Y.wake, .int .i64 Y.last, .int .i64 Y.spent, .int .i64 Y.missed]) ⟨h12.below (alloc_below (Below.refl _ _) _), Blk.new _ _ _⟩ ?_
  intro W ⟨hW, hS⟩
  clear h12
  have hlt1 := Blk.lt hS
  have hlt2 := Blk.lt hW.xc
  have hlt3 := Blk.lt hW.xb
  have c0 := fun p => Blk.cell (blk_ext hW.xc p) 0 (v := .int .i64 u) rfl
  have c1 := fun p => Blk.cell (blk_ext hW.xc p) 1 (v := .int .i64 g) rfl
  have c2 := fun p => Blk.cell (blk_ext hW.xc p) 2 (v := .int .i64 b) rfl
  have c3 := fun p' => Blk.cell (blk_ext hW.xc p') 3 (v := .int .i64 p) rfl
  have s0 := fun p => Blk.cell (blk_ext hS p) 0 (v := .int .i64 (n + m)) rfl
  have s1 := fun p => Blk.cell (blk_ext hS p) 1 (v := .int .i64 Y.state) rfl
  have s2 := fun p => Blk.cell (blk_ext hS p) 2 (v := .int .i64 Y.wake) rfl
  have s3 := fun p => Blk.cell (blk_ext hS p) 3 (v := .int .i64 Y.last) rfl
  have s4 := fun p => Blk.cell (blk_ext hS p) 4 (v := .int .i64 Y.spent) rfl
  have s5 := fun p => Blk.cell (blk_ext hS p) 5 (v := .int .i64 Y.missed) rfl
  have hbe := hW.be
  refine Go.Proofs.Ytknjnpagbpjlkaa.Q.region_ext (by kernel_rfl) (by kernel_rfl) ?_
  repeat (go_big_quiet_step ((first | (go_at_call 23; refine ext_call (ks gb _ (blk_ext hW.xb _))) | (go_at_call 13; refine ext_call (k2 _)) | (go_at_call 10; refine ext_call (example_any _)))))
  refine wpQuiet_nil ?_
  rintro w13 ⟨pq, rfl⟩
  go_wp2
  go_ret
  exact ⟨rfl, hbe.trans ((below_ext _ _).mono hbe.size)⟩
end Go.Proofs.Ytknjnpagbpjlkaa.AwLong
