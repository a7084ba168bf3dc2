/- The walk over AwakeLong. -/
import Derived.Test.YtknjnpagbpjlkaaAwF
import Derived.Test.YtknjnpagbpjlkaaAwPlain3
import Derived.Test.YtknjnpagbpjlkaaAwV
import Derived.Deep.RegionHeld3
namespace Go.Proofs.Ytknjnpagbpjlkaa.AwMissed
open Go.RowKit Go.Proofs.Ytknjnpagbpjlkaa.Q Go.Proofs.Ytknjnpagbpjlkaa.Mem Go.Proofs.Ytknjnpagbpjlkaa.AwA Go.Proofs.Ytknjnpagbpjlkaa.AwB Go.Proofs.Ytknjnpagbpjlkaa.AwC Go.Proofs.Ytknjnpagbpjlkaa.AwD Go.Proofs.Ytknjnpagbpjlkaa.AwE Go.Proofs.Ytknjnpagbpjlkaa.AwF Go.Proofs.Ytknjnpagbpjlkaa.AwR Go.Proofs.Ytknjnpagbpjlkaa.AwT Go.Proofs.Ytknjnpagbpjlkaa.AwV

theorem alloc_below {w w1 : World} (h : Below w.heap.size w w1) (o : Obj) : Below w.heap.size w (w1.alloc o) := h.alloc h.size o
theorem tstay {W W' : World} {B9 g : Nat} {t : TypeId} {cs : Array Value} (h : Blk W B9 t cs) (t6 : W.grownBy W' (some g)) (hne : B9 ≠ g) : Blk W' B9 t cs := Blk.grown h t6 (by intro e; injection e with e; exact hne e)
theorem bturn {w W W' : World} {g : Nat} {m : Aw.M} (h : Below w.heap.size w W) (t : Turned W W' g m) (hg : w.heap.size ≤ g) : Below w.heap.size w W' := h.trans (below_of_only t.only h.size (fun k hk => by cases hk; exact hg))

/-- the machine, and the box -/
structure Mac (w W : World) (s ga : Nat) (A : Aw.M) (u g b p : Int) : Prop where
  xa : At W ga A
  xi : A.Inv
  xc : Blk W s 23 #[.int .i64 u, .int .i64 g, .int .i64 b, .int .i64 p]
  xn : s < ga
  w0 : w.heap.size = s
  be : Below w.heap.size w W
section
variable {w W W' : World} {s ga : Nat} {A X : Aw.M} {u g b p : Int}
theorem Mac.turn (h : Mac w W s ga A u g b p) (t : Turned W W' ga X) (hi : X.Inv) : Mac w W' s ga X u g b p :=
  ⟨t.at_, hi, tstay h.xc t.only (by have := h.xn; omega), h.xn, h.w0, bturn h.be t (by have := h.xn; have := h.w0; omega)⟩
theorem Mac.below (h : Mac w W s ga A u g b p) (hb : Below W.heap.size W W') : Mac w W' s ga A u g b p :=
  ⟨Blk.below h.xa hb (Blk.lt h.xa), h.xi, Blk.below h.xc hb (Blk.lt h.xc), h.xn, h.w0, h.be.trans (hb.mono h.be.size)⟩
theorem Mac.drew (h : Mac w W s ga A u g b p) : Mac w W.drew s ga A u g b p := ⟨Blk.drew h.xa, h.xi, Blk.drew h.xc, h.xn, h.w0, below_drewN h.be 1⟩
end
theorem box_below {w : World} {u g b p : Int} : Blk (w.alloc (.cells #[.int .i64 u, .int .i64 g, .int .i64 b, .int .i64 p] 23)) w.heap.size 23 #[.int .i64 u, .int .i64 g, .int .i64 b, .int .i64 p] := Blk.new w _ _

set_option maxRecDepth 100000 in
set_option maxHeartbeats 4000000 in
theorem missed_no (u g b p d n : Int) (w : World)
    (h : ¬ (Aw.cfg u g b p = true ∧ u ≤ 40 ∧ g ≤ 40 ∧ b ≤ 40 ∧ p ≤ 40 ∧ 1 ≤ d ∧ d ≤ 20 ∧ 0 ≤ n ∧ n ≤ 300)) :
        Calls Try.prog 6 #[.agg #[.int .i64 u, .int .i64 g, .int .i64 b, .int .i64 p], .int .i64 d, .int .i64 n] w fun e w' => e = .returned (.bool true) ∧ Below w.heap.size w w' := by
  have k1 := lmay_any u g b p
  by_cases hc : Aw.cfg u g b p = true
  · rw [hc] at k1
    have h' : ¬ (u ≤ 40 ∧ g ≤ 40 ∧ b ≤ 40 ∧ p ≤ 40 ∧ 1 ≤ d ∧ d ≤ 20 ∧ 0 ≤ n ∧ n ≤ 300) := fun hh => h ⟨hc, hh⟩
    have H := Lib.hid h'
    clear h h' hc
    go_enter Try.func6, Try.ntmps6
    go_wp2_with fail
    (with_reducible refine (k1 _).mono ?_); rintro e w1 ⟨rfl, rfl⟩
    go_wp2_with fail
    all_goals first
      | ((with_reducible refine (example_any _).mono ?_); rintro e w2 ⟨rfl, b2⟩; go_wp2; go_ret; exact ⟨rfl, (alloc_below (alloc_below (Below.refl _ _) _) _).trans (b2.mono (by simp <;> omega))⟩)
      | (exfalso; have := H.out; omega)
  · have hc' : Aw.cfg u g b p = false := by simpa using hc
    rw [hc'] at k1
    clear h hc hc'
    go_enter Try.func6, Try.ntmps6
    go_wp2_with fail
    (with_reducible refine (k1 _).mono ?_); rintro e w1 ⟨rfl, rfl⟩
    go_wp2_with fail
    (with_reducible refine (example_any _).mono ?_); rintro e w2 ⟨rfl, b2⟩
    go_wp2
    go_ret
    exact ⟨rfl, (alloc_below (alloc_below (Below.refl _ _) _) _).trans (b2.mono (by simp <;> omega))⟩


set_option maxRecDepth 100000 in
set_option maxHeartbeats 4000000 in
theorem missed_yes (u g b p d : Int) (n : Nat) (w : World)
    (hu : -9223372036854775808 ≤ u ∧ u ≤ 9223372036854775807) (hg : -9223372036854775808 ≤ g ∧ g ≤ 9223372036854775807) (hb : -9223372036854775808 ≤ b ∧ b ≤ 9223372036854775807) (hp : -9223372036854775808 ≤ p ∧ p ≤ 9223372036854775807)
    (hc : Aw.cfg u g b p = true) (hu' : u ≤ 40) (hg' : g ≤ 40) (hb' : b ≤ 40) (hp' : p ≤ 40) (hd : 1 ≤ d) (hd' : d ≤ 20) (hn : n ≤ 300) :
        Calls Try.prog 6 #[.agg #[.int .i64 u, .int .i64 g, .int .i64 b, .int .i64 p], .int .i64 d, .int .i64 (n : Int)] w fun e w' => e = .returned (.bool true) ∧ Below w.heap.size w w' := by
  have k1 := lmay_any u g b p
  rw [hc] at k1
  have k3 := fun w => new_ok u g b p w hu hg hb hp hc
  have hi := Aw.inv_start hc
  have hp1 : 1 ≤ p := by simp only [Aw.cfg, decide_eq_true_eq] at hc; omega
  obtain ⟨wk, hw0, hwL, hL1, hL8, hW, hE⟩ := Aw.wt_start hc hd hd' hu'
  have f1 : ∀ (x0 x1 x2 x3 x4 x5 : Value) w, (Instr.field 50 (.agg #[x0, x1, x2, x3, x4, x5]) 1).run Try.prog w = .ok x1 w := fun _ _ _ _ _ _ _ => by kernel_rfl
  have f2 : ∀ (x0 x1 x2 x3 x4 x5 : Value) w, (Instr.field 50 (.agg #[x0, x1, x2, x3, x4, x5]) 2).run Try.prog w = .ok x2 w := fun _ _ _ _ _ _ _ => by kernel_rfl
  have f3 : ∀ (x0 x1 x2 x3 x4 x5 : Value) w, (Instr.field 50 (.agg #[x0, x1, x2, x3, x4, x5]) 3).run Try.prog w = .ok x3 w := fun _ _ _ _ _ _ _ => by kernel_rfl
  have f4 : ∀ (x0 x1 x2 x3 x4 x5 : Value) w, (Instr.field 50 (.agg #[x0, x1, x2, x3, x4, x5]) 4).run Try.prog w = .ok x4 w := fun _ _ _ _ _ _ _ => by kernel_rfl
  have f5 : ∀ (x0 x1 x2 x3 x4 x5 : Value) w, (Instr.field 50 (.agg #[x0, x1, x2, x3, x4, x5]) 5).run Try.prog w = .ok x5 w := fun _ _ _ _ _ _ _ => by kernel_rfl
  have k4 := fun G w hm => heard_any (Aw.start u g b p) G d 0 false true w hm hi
  rw [hE] at k4
  obtain ⟨A, hA⟩ : ∃ A, (Aw.start u g b p).heard d true 0 = A := ⟨_, rfl⟩
  have iA : A.Inv := by rw [← hA]; exact Aw.heard_inv _ hi _ _ _
  have nA : A.now = 0 := by rw [← hA]; exact (Aw.heard_keeps _ d 0 true).1
  have sA : A.spent = 0 := by rw [← hA]; exact (Aw.heard_keeps _ d 0 true).2.1
  rw [hA] at k4 hW
  have HW := Lib.hid hW
  have HN := Lib.hid nA
  have HS := Lib.hid sA
  have e1 : decide (40 < u) = false := by simp; omega
  have e2 : decide (40 < g) = false := by simp; omega
  have e3 : decide (40 < b) = false := by simp; omega
  have e4 : decide (40 < p) = false := by simp; omega
  have e5 : decide (d < 1) = false := by simp; omega
  have e6 : decide (20 < d) = false := by simp; omega
  have e7 : decide ((n : Int) < 0) = false := by simp
  have e8 : decide (300 < (n : Int)) = false := by simp; omega
  clear hc hA nA sA hW hE hi
  go_enter Try.func6, Try.ntmps6
  go_wp2_with fail
  (with_reducible refine (k1 _).mono ?_); rintro e w1 ⟨rfl, rfl⟩
  clear k1
  go_wp2_with fail
  (with_reducible refine (k3 _).mono ?_); rintro e w1 ⟨ga, hga, rfl, ma, b1⟩
  clear e1 e2 e3 e4 e5 e6 e7 e8 k3
  have qc : Blk w1 w.heap.size 23 #[.int .i64 u, .int .i64 g, .int .i64 b, .int .i64 p] := Blk.below (Blk.alloc (Blk.new w _ _) _) b1 (by simp <;> omega)
  have hb1 : Below w.heap.size w w1 := (alloc_below (alloc_below (Below.refl _ _) _) _).trans (b1.mono (by simp <;> omega))
  have hga0 : w.heap.size < ga := by simp at hga; omega
  clear b1 hga
  go_wp2_with fail
  (with_reducible refine (k4 ga _ ma).mono ?_); rintro e w2 ⟨rfl, t2⟩
  have hM2 : Mac w w2 w.heap.size ga A u g b p := ⟨t2.at_, iA, tstay qc t2.only (by omega), hga0, rfl, bturn hb1 t2 (by omega)⟩
  clear k4 ma qc hb1 hga0 t2
  go_wp2_with fail
  have ks := fun w h => stat_any A ga w h
  unfold stat at ks
  rw [HW.out.w, HW.out.l] at ks
  (with_reducible refine (ks _ hM2.xa).mono ?_); rintro e w3 ⟨rfl, b3⟩
  have hM3 := (hM2.below b3).below (alloc_below (Below.refl _ _) (.cells #[.int .i64 A.now, .int .i64 A.state, .int .i64 wk, .int .i64 (d * u), .int .i64 A.spent, .int .i64 A.missed] 50))
  have q9 := Blk.new w3 50 #[.int .i64 A.now, .int .i64 A.state, .int .i64 wk, .int .i64 (d * u), .int .i64 A.spent, .int .i64 A.missed]
  have g9 : ga < w3.heap.size := by have := Blk.lt hM2.xa; have := b3.size; omega
  clear hM2 b3 ks
  have d0 := Blk.cell hM3.xc 0 (v := .int .i64 u) rfl
  have s2 := Blk.cell q9 2 (v := .int .i64 wk) rfl
  have s3 := Blk.cell q9 3 (v := .int .i64 (d * u)) rfl
  have e1 : decide (d * u < wk) = false := by simp; omega
  have e2 : decide (wk < 0) = false := by simp; omega
  go_wp2_with fail
  clear d0 s2 s3 e1 e2
  obtain ⟨B9, hB9⟩ : ∃ B9, B9 = w3.heap.size := ⟨_, rfl⟩
  rw [← hB9] at q9 g9
  go_loopw [10] (fun i wr => ∃ k : Nat, (k : Int) ≤ d * u + p ∧ i = .int .i64 k ∧ Mac w wr w.heap.size ga (A.steps k) u g b p ∧ Blk wr B9 50 #[.int .i64 A.now, .int .i64 A.state, .int .i64 wk, .int .i64 (d * u), .int .i64 A.spent, .int .i64 A.missed]) (fun i _ => (d * u + p).toNat - (intOf i).toNat)
  case atStart => exact ⟨0, by omega, rfl, hM3, q9⟩
  case round =>
    clear hM3 q9
    obtain ⟨k, hk, rfl, hM, q9⟩ := hrel
    have s3 := Blk.cell q9 3 (v := .int .i64 (d * u)) rfl
    have d3 := Blk.cell hM.xc 3 (v := .int .i64 p) rfl
    rw [hB9] at s3
    by_cases hkl : (k : Int) < d * u + p
    · have t0 : decide ((k : Int) < d * u + p) = true := by simpa using hkl
      go_wp2_with fail
      (with_reducible refine (next_any (A.steps k) ga _ hM.xa hM.xi).mono ?_); rintro e w6 ⟨rfl, t6⟩
      have hM6 := hM.turn t6 (Aw.next_inv _ hM.xi)
      have q6 := tstay q9 t6.only (by omega)
      clear hM q9 t6 s3 d3 t0
      have hW1 := Aw.wt_steps HW.out (k + 1) (by rw [HN.out]; omega) (by rw [HN.out]; omega)
      have HK := Lib.hid (show A.steps (k + 1) = (A.steps k).next from rfl)
      rw [HK.out] at hW1
      obtain ⟨M1, hM1⟩ : ∃ M1, (A.steps k).next = M1 := ⟨_, rfl⟩
      have HK1 := Lib.hid hM1
      rw [hM1] at hW1 hM6
      clear hM1
      have ks := fun w h => stat_any M1 ga w h
      unfold stat at ks
      rw [hW1.ms] at ks
      have ka := fun w h => awake_any M1 ga w h
      have e1 : (M1.state == 1) = false := by have := hW1.s; simp; omega
      have e2 : (M1.state != 2) = decide (wk ≤ M1.now) := by
        rcases hW1.s with ⟨h1, h2⟩ | ⟨h1, h2⟩
        · rw [h2, decide_eq_false (by omega)]; rfl
        · rw [h2, decide_eq_true h1]; rfl
      rw [e2] at ka
      clear e2 hW1
      go_wp2_with fail
      (with_reducible refine (ks _ hM6.xa).mono ?_); rintro e w7 ⟨rfl, b7⟩
      have hM7 := hM6.below b7
      have q7 := Blk.below q6 b7 (Blk.lt q6)
      clear hM6 q6 b7 ks
      go_wp2_with fail
      refine wp_gen (fun W => Mac w W w.heap.size ga M1 u g b p ∧ Blk W B9 50 #[.int .i64 A.now, .int .i64 A.state, .int .i64 wk, .int .i64 (d * u), .int .i64 A.spent, .int .i64 A.missed] ∧ Blk W w7.heap.size 50 #[.int .i64 M1.now, .int .i64 M1.state, .int .i64 M1.wake, .int .i64 M1.last, .int .i64 M1.spent, .int .i64 0]) ⟨hM7.below (alloc_below (Below.refl _ _) _), Blk.alloc q7 _, Blk.new _ _ _⟩ ?_
      intro W ⟨hM8, q8, r8⟩
      clear hM7 q7
      have l1 := Blk.lt hM8.xa
      have l2 := Blk.lt q8
      have l3 := Blk.lt r8
      rw [hB9] at q8 l2
      have s2 := fun p => Blk.cell (blk_ext q8 p) 2 (v := .int .i64 wk) rfl
      have r0 := fun p => Blk.cell (blk_ext r8 p) 0 (v := .int .i64 M1.now) rfl
      have r1 := fun p => Blk.cell (blk_ext r8 p) 1 (v := .int .i64 M1.state) rfl
      have r5 := fun p => Blk.cell (blk_ext r8 p) 5 (v := .int .i64 0) rfl
      refine Go.Proofs.Ytknjnpagbpjlkaa.Q.region_ext (by kernel_rfl) (by kernel_rfl) ?_
      repeat (go_big_quiet_step (((go_at_call 24; refine ext_call_same (ka _ (blk_ext hM8.xa _))))))
      refine wpQuiet_nil ?_
      rintro w9 ⟨pq, rfl⟩
      clear s2 r0 r1 r5 ka e1 l1 l2 l3
      have hM9 := hM8.below (below_ext W pq)
      have q9 := blk_ext q8 pq
      rw [← hB9] at q9
      rw [← HK1.out, ← HK.out] at hM9
      clear hM8 q8 r8 HK HK1
      go_wp2_with fail
      go_roundw
      case rel => exact ⟨k + 1, by omega, by go_num, hM9, q9⟩
      case measure => simp [intOf]; omega
    · have hkl' : (k : Int) = d * u + p := by omega
      have t0 : decide ((k : Int) < d * u + p) = false := by simpa using hkl
      go_wp2_with fail
      (with_reducible refine (next_any (A.steps k) ga _ hM.xa hM.xi).mono ?_); rintro e w6 ⟨rfl, t6⟩
      have hM6 := hM.turn t6 (Aw.next_inv _ hM.xi)
      have hW1 := Aw.wt_steps HW.out k (by rw [HN.out]; omega) (by rw [HN.out]; omega)
      have hN1 := Aw.steps_now A k (by rw [HN.out]; omega)
      have hS1 := Aw.steps_spent A (k + 1)
      have hN2 := Aw.steps_now A (k + 1) (by rw [HN.out]; omega)
      rw [show A.steps (k + 1) = (A.steps k).next from rfl] at hS1 hN2
      rw [HS.out] at hS1
      rw [HN.out] at hN1 hN2
      obtain ⟨x1, x2, x3, x4⟩ := Aw.wt_over hW1 (by omega) (by omega) hwL (by omega)
      clear hM t6 s3 d3 t0 hW1 hN1 q9 hB9 HW HN HS hkl
      obtain ⟨X, hX⟩ : ∃ X, (A.steps k).next = X := ⟨_, rfl⟩
      rw [hX] at x1 x2 x3 x4 hS1 hN2 hM6
      obtain ⟨y1, y2, y3⟩ := Aw.acq_steps x1 n (by omega)
      rw [x2] at y2
      obtain ⟨Y, hY⟩ : ∃ Y, X.steps n = Y := ⟨_, rfl⟩
      rw [hY] at y1 y2 y3
      have HY := Lib.hid hY
      have ks := fun w h => stat_any X ga w h
      unfold stat at ks
      rw [x1, x2, x3, x4] at ks
      have ky := fun w h => stat_any Y ga w h
      unfold stat at ky
      rw [y1, y2, y3] at ky
      have ka := fun w h => awake_any Y ga w h
      rw [y1] at ka
      clear hX hY x1 x2 x3 x4 y1 y2 y3 hN2
      go_wp2_with fail
      (with_reducible refine (ks _ hM6.xa).mono ?_); rintro e w7 ⟨rfl, b7⟩
      have hM7 := hM6.below b7
      clear hM6 b7
      go_wp2_with fail
      (with_reducible refine (ks _ hM7.xa).mono ?_); rintro e w8 ⟨rfl, b8⟩
      have hM8 := hM7.below b8
      clear hM7 b8
      go_wp2_with fail
      (with_reducible refine (ks _ hM8.xa).mono ?_); rintro e w9 ⟨rfl, b9⟩
      have hM9 := hM8.below b9
      clear hM8 b9
      go_wp2_with fail
      (with_reducible refine (ks _ hM9.xa).mono ?_); rintro e w10 ⟨rfl, b10⟩
      have hM10 := hM9.below b10
      clear hM9 b10
      go_wp2_with fail
      (with_reducible refine (ks _ hM10.xa).mono ?_); rintro e w11 ⟨rfl, b11⟩
      have hM11 := hM10.below b11
      clear hM10 b11 ks
      go_wp2_with fail
      (with_reducible refine (skip_ok X ga n _ hM11.xa hM11.xi (by omega)).mono ?_); rintro e w12 ⟨rfl, t12⟩
      have hM12 := hM11.turn t12 (Aw.steps_inv _ hM11.xi _)
      rw [HY.out] at hM12
      clear hM11 t12 HY
      go_wp2_with fail
      (with_reducible refine (ka _ hM12.xa).mono ?_); rintro e w13 ⟨rfl, rfl⟩
      clear ka
      go_wp2_with fail
      (with_reducible refine (ky _ hM12.xa).mono ?_); rintro e w13 ⟨rfl, b13⟩
      have hM13 := hM12.below b13
      clear hM12 b13
      go_wp2_with fail
      (with_reducible refine (ky _ hM13.xa).mono ?_); rintro e w14 ⟨rfl, b14⟩
      have hM14 := hM13.below b14
      clear hM13 b14
      go_wp2_with fail
      (with_reducible refine (example_any _).mono ?_); rintro e w15 ⟨rfl, b15⟩
      go_wp2
      go_ret
      exact ⟨rfl, hM14.be.trans (b15.mono hM14.be.size)⟩
end Go.Proofs.Ytknjnpagbpjlkaa.AwMissed
