/- The document's MakeSlice. -/
import Derived.Test.YtbceakdifklocaaDsF
import Derived.Deep.RegionHeld3
namespace Go.Proofs.Ytbceakdifklocaa.DsG
open Go.RowKit Go.Proofs.Ytbceakdifklocaa.Q Go.Proofs.Ytbceakdifklocaa.Mem Go.Proofs.Ytbceakdifklocaa.DsA Go.Proofs.Ytbceakdifklocaa.DsB Go.Proofs.Ytbceakdifklocaa.DsC Go.Proofs.Ytbceakdifklocaa.DsD Go.Proofs.Ytbceakdifklocaa.DsE Go.Proofs.Ytbceakdifklocaa.DsF

set_option maxRecDepth 100000
theorem rmake_rows (x : Sl) (w : World) (h : ¬ okRows x.rows) :
    Calls Try.prog 13 #[.agg x.vals] w fun e w' => e = .returned (.tuple #[.agg #[.int .i64 0, .string nob], .int .i64 15]) ∧ Below w.heap.size w w' := by
  obtain ⟨sl, fec, rows, burst, rate, id, more⟩ := x
  have h' : rows ≠ 256 ∧ rows ≠ 512 ∧ rows ≠ 768 ∧ rows ≠ 1024 := by
    refine ⟨fun e => h (Or.inl e), fun e => h (Or.inr (Or.inl e)), fun e => h (Or.inr (Or.inr (Or.inl e))), fun e => h (Or.inr (Or.inr (Or.inr e)))⟩
  have t1 : (rows != 256) = true := by simpa using h'.1
  have t2 : (rows != 512) = true := by simpa using h'.2.1
  have t3 : (rows != 768) = true := by simpa using h'.2.2.1
  have t4 : (rows != 1024) = true := by simpa using h'.2.2.2
  clear h h'
  unfold Sl.vals
  go_enter Try.func13, Try.ntmps13
  go_wp2_with fail
  exact bodyPost_ret (v := .tuple #[.agg #[.int .i64 0, .string nob], .int .i64 15]) (by simp [results, Try.results13, go_sem]) rfl ⟨rfl, alloc2 _ _ _⟩

theorem rmake_burst (x : Sl) (w : World) (h : okRows x.rows) (h1 : in1 255 x.burst = false) :
    Calls Try.prog 13 #[.agg x.vals] w fun e w' => e = .returned (.tuple #[.agg #[.int .i64 0, .string nob], .int .i64 15]) ∧ Below w.heap.size w w' := by
  obtain ⟨sl, fec, rows, burst, rate, id, more⟩ := x
  have kb := fun V => rin_any burst 255 V
  dsimp only at h h1
  rw [h1] at kb
  unfold Sl.vals
  rcases h with rfl | rfl | rfl | rfl
  all_goals
    go_enter Try.func13, Try.ntmps13
    go_wp2_with fail
    (with_reducible refine (kb _).mono ?_); rintro e W1 ⟨rfl, rfl⟩
    go_wp2_with fail
    exact bodyPost_ret (v := .tuple #[.agg #[.int .i64 0, .string nob], .int .i64 15]) (by simp [results, Try.results13, go_sem]) rfl ⟨rfl, alloc2 _ _ _⟩
theorem rmake_rate (x : Sl) (w : World) (h : okRows x.rows) (h1 : in1 255 x.burst = true) (h2 : in1 15 x.rate = false) :
    Calls Try.prog 13 #[.agg x.vals] w fun e w' => e = .returned (.tuple #[.agg #[.int .i64 0, .string nob], .int .i64 15]) ∧ Below w.heap.size w w' := by
  obtain ⟨sl, fec, rows, burst, rate, id, more⟩ := x
  have kb := fun V => rin_any burst 255 V
  have kr := fun V => rin_any rate 15 V
  dsimp only at h h1 h2
  rw [h1] at kb
  rw [h2] at kr
  unfold Sl.vals
  rcases h with rfl | rfl | rfl | rfl
  all_goals
    go_enter Try.func13, Try.ntmps13
    go_wp2_with fail
    (with_reducible refine (kb _).mono ?_); rintro e W1 ⟨rfl, rfl⟩
    go_wp2_with fail
    (with_reducible refine (kr _).mono ?_); rintro e W1 ⟨rfl, rfl⟩
    go_wp2_with fail
    exact bodyPost_ret (v := .tuple #[.agg #[.int .i64 0, .string nob], .int .i64 15]) (by simp [results, Try.results13, go_sem]) rfl ⟨rfl, alloc2 _ _ _⟩
theorem rmake_id (x : Sl) (w : World) (h : okRows x.rows) (h1 : in1 255 x.burst = true) (h2 : in1 15 x.rate = true) (h3 : in1 15 x.id = false) :
    Calls Try.prog 13 #[.agg x.vals] w fun e w' => e = .returned (.tuple #[.agg #[.int .i64 0, .string nob], .int .i64 15]) ∧ Below w.heap.size w w' := by
  obtain ⟨sl, fec, rows, burst, rate, id, more⟩ := x
  have kb := fun V => rin_any burst 255 V
  have kr := fun V => rin_any rate 15 V
  have ki := fun V => rin_any id 15 V
  dsimp only at h h1 h2 h3
  rw [h1] at kb
  rw [h2] at kr
  rw [h3] at ki
  unfold Sl.vals
  rcases h with rfl | rfl | rfl | rfl
  all_goals
    go_enter Try.func13, Try.ntmps13
    go_wp2_with fail
    (with_reducible refine (kb _).mono ?_); rintro e W1 ⟨rfl, rfl⟩
    go_wp2_with fail
    (with_reducible refine (kr _).mono ?_); rintro e W1 ⟨rfl, rfl⟩
    go_wp2_with fail
    (with_reducible refine (ki _).mono ?_); rintro e W1 ⟨rfl, rfl⟩
    go_wp2_with fail
    exact bodyPost_ret (v := .tuple #[.agg #[.int .i64 0, .string nob], .int .i64 15]) (by simp [results, Try.results13, go_sem]) rfl ⟨rfl, alloc2 _ _ _⟩
theorem rmake_long (x : Sl) (w : World) (h : okRows x.rows) (h1 : in1 255 x.burst = true) (h2 : in1 15 x.rate = true) (h3 : in1 15 x.id = true) (h4 : 252 < x.more.size) :
    Calls Try.prog 13 #[.agg x.vals] w fun e w' => e = .returned (.tuple #[.agg #[.int .i64 0, .string nob], .int .i64 11]) ∧ Below w.heap.size w w' := by
  obtain ⟨sl, fec, rows, burst, rate, id, more⟩ := x
  have kb := fun V => rin_any burst 255 V
  have kr := fun V => rin_any rate 15 V
  have ki := fun V => rin_any id 15 V
  dsimp only at h h1 h2 h3 h4
  have t9 : decide (252 < (more.size : Int)) = true := by simp; omega
  rw [h1] at kb
  rw [h2] at kr
  rw [h3] at ki
  unfold Sl.vals
  clear h4
  rcases h with rfl | rfl | rfl | rfl
  all_goals
    go_enter Try.func13, Try.ntmps13
    go_wp2_with fail
    (with_reducible refine (kb _).mono ?_); rintro e W1 ⟨rfl, rfl⟩
    go_wp2_with fail
    (with_reducible refine (kr _).mono ?_); rintro e W1 ⟨rfl, rfl⟩
    go_wp2_with fail
    (with_reducible refine (ki _).mono ?_); rintro e W1 ⟨rfl, rfl⟩
    go_wp2_with fail
    exact bodyPost_ret (v := .tuple #[.agg #[.int .i64 0, .string nob], .int .i64 11]) (by simp [results, Try.results13, go_sem]) rfl ⟨rfl, alloc2 _ _ _⟩

/-- behind a call: the box, the result -/
structure Rx (w W : World) (x : Sl) : Prop where
  b : Blk W w.heap.size 38 x.vals
  d : Blk W (w.heap.size + 1) 35 #[.int .i64 0, .string nob]
  be : Below w.heap.size w W
theorem Rx.below {w W W' : World} {x : Sl} (h : Rx w W x) (hb : Below W.heap.size W W') : Rx w W' x :=
  ⟨Blk.below h.b hb (Blk.lt h.b), Blk.below h.d hb (Blk.lt h.d), h.be.trans (hb.mono h.be.size)⟩
theorem rx_new (w : World) (x : Sl) : Rx w ((w.alloc (.cells x.vals 38)).alloc (.cells #[.int .i64 0, .string nob] 35)) x :=
  ⟨Blk.alloc (Blk.new w _ _) _, Blk.newAt _ _ _ (by simp), alloc2 _ _ _⟩

end Go.Proofs.Ytbceakdifklocaa.DsG
