/- The law DescrSlices, walked. -/
import Derived.Test.YtbceakdifklocaaDsM
import Derived.Test.YtbceakdifklocaaDsN
namespace Go.Proofs.Ytbceakdifklocaa.DsO
open Go.RowKit Go.Proofs.Ytbceakdifklocaa.Q Go.Proofs.Ytbceakdifklocaa.Mem Go.Proofs.Ytbceakdifklocaa.DsA Go.Proofs.Ytbceakdifklocaa.DsB Go.Proofs.Ytbceakdifklocaa.DsC Go.Proofs.Ytbceakdifklocaa.DsD Go.Proofs.Ytbceakdifklocaa.DsE Go.Proofs.Ytbceakdifklocaa.DsI Go.Proofs.Ytbceakdifklocaa.DsJ Go.Proofs.Ytbceakdifklocaa.DsM Go.Proofs.Ytbceakdifklocaa.DsN Go.Proofs.Ytbceakdifklocaa.Rg

set_option maxRecDepth 100000
theorem read_any (d : Dc) (w : World) : Calls Try.prog 14 #[.agg #[.int .i64 d.tag, .string d.body]] w fun e w' => e = .returned (.tuple #[.agg (rdS d).vals, .int .i64 (rdE d)]) ∧ Below w.heap.size w w' := by
  by_cases h1 : d.tag ≠ 119
  · have hE : rdE d = 14 := by simp [rdE, h1]
    rw [show rdS d = zeroSl by simp [rdS, hE], hE]
    exact read_kind d w h1
  · have h1' : d.tag = 119 := by omega
    by_cases h2 : d.body.size < 3
    · have hE : rdE d = 10 := by simp [rdE, h1', h2]
      rw [show rdS d = zeroSl by simp [rdS, hE], hE]
      exact read_short d w h1 h2
    · exact read_go d w h1 h2

theorem slices_long (x : Sl) (d : Dc) (w : World) (h : 300 < x.more.size ∨ 300 < d.body.size) :
    Calls Try.prog 4 #[.agg x.vals, .agg #[.int .i64 d.tag, .string d.body]] w fun e w' => e = .returned (.bool true) ∧ Below w.heap.size w w' := by
  have hB := bk2 w 23 30 x.vals #[.int .i64 d.tag, .string d.body]
  unfold Sl.vals at hB ⊢
  have hb := hB.be
  have a6 := Blk.cell (hB.nth 1 rfl) 6 (v := .string x.more) rfl
  by_cases h1 : 300 < x.more.size
  · have t1 : decide (300 < (x.more.size : Int)) = true := by simp; omega
    clear h h1 hB
    go_enter Try.func4, Try.ntmps4
    go_wp2_with fail
    (with_reducible refine (awake_any _).mono ?_); rintro e W1 ⟨rfl, hb1⟩
    clear a6
    go_wp2_with fail
    go_ret
    exact ⟨rfl, hb.trans (hb1.mono hb.size)⟩
  · have t1 : decide (300 < (x.more.size : Int)) = false := by simp; omega
    have t2 : decide (300 < (d.body.size : Int)) = true := by simp; omega
    clear h h1 hB
    go_enter Try.func4, Try.ntmps4
    go_wp2_with fail
    (with_reducible refine (awake_any _).mono ?_); rintro e W1 ⟨rfl, hb1⟩
    clear a6
    go_wp2_with fail
    go_ret
    exact ⟨rfl, hb.trans (hb1.mono hb.size)⟩

set_option maxHeartbeats 1600000 in
theorem slices_go (x : Sl) (d : Dc) (w : World) (h1 : x.more.size ≤ 300) (h2 : d.body.size ≤ 300) :
    Calls Try.prog 4 #[.agg x.vals, .agg #[.int .i64 d.tag, .string d.body]] w fun e w' => e = .returned (.bool true) ∧ Below w.heap.size w w' := by
  have hB := bk2 w 23 30 x.vals #[.int .i64 d.tag, .string d.body]
  have t1 : decide (300 < (x.more.size : Int)) = false := by simp; omega
  have t2 : decide (300 < (d.body.size : Int)) = false := by simp; omega
  have k1 := fun V => make_any x V
  have k2 := fun V => rmake_any x V
  have k3 := fun V => read_any d V
  have k4 := fun V => rread_any d V
  obtain ⟨e, he⟩ : ∃ e, x.makeE = e := ⟨_, rfl⟩
  obtain ⟨c, hc⟩ : ∃ c, slD x = c := ⟨_, rfl⟩
  obtain ⟨y, hy⟩ : ∃ y, rdS d = y := ⟨_, rfl⟩
  obtain ⟨f, hf⟩ : ∃ f, rdE d = f := ⟨_, rfl⟩
  rw [he, hc] at k1 k2
  rw [hy, hf] at k3 k4
  have k5 := fun V => like_same c e V
  have e1 : ∀ V, (Op.equalIn 10000 23 (.agg #[.bool y.sl, .bool y.fec, .int .i64 y.rows, .int .i64 y.burst, .int .i64 y.rate, .int .i64 y.id, .string y.more]) (.agg #[.bool y.sl, .bool y.fec, .int .i64 y.rows, .int .i64 y.burst, .int .i64 y.rate, .int .i64 y.id, .string y.more])).run Try.prog V = .ok true V := fun V => by
    have := eqS y y V
    unfold Sl.vals at this
    rw [this]; simp
  have t3 : (f == f) = true := by simp
  unfold Sl.vals at k1 k2 k3 k4 hB ⊢
  have a0 := Blk.cell (hB.nth 1 rfl) 0 (v := .bool x.sl) rfl
  have a1 := Blk.cell (hB.nth 1 rfl) 1 (v := .bool x.fec) rfl
  have a2 := Blk.cell (hB.nth 1 rfl) 2 (v := .int .i64 x.rows) rfl
  have a3 := Blk.cell (hB.nth 1 rfl) 3 (v := .int .i64 x.burst) rfl
  have a4 := Blk.cell (hB.nth 1 rfl) 4 (v := .int .i64 x.rate) rfl
  have a5 := Blk.cell (hB.nth 1 rfl) 5 (v := .int .i64 x.id) rfl
  have a6 := Blk.cell (hB.nth 1 rfl) 6 (v := .string x.more) rfl
  have HB := Lib.hid hB
  clear h1 h2 he hc hy hf hB
  go_enter Try.func4, Try.ntmps4
  go_wp2_with fail
  (with_reducible refine (k1 _).mono ?_); rintro e1 W1 ⟨rfl, hb1⟩
  have hB1 := HB.out.box hb1 30 #[.int .i64 c.tag, .string c.body]
  clear a0 a1 a2 a3 a4 a5 a6 HB hb1 t1 t2 k1
  have a0 := Blk.cell (hB1.nth 2 rfl) 0 (v := .bool x.sl) rfl
  have a1 := Blk.cell (hB1.nth 2 rfl) 1 (v := .bool x.fec) rfl
  have a2 := Blk.cell (hB1.nth 2 rfl) 2 (v := .int .i64 x.rows) rfl
  have a3 := Blk.cell (hB1.nth 2 rfl) 3 (v := .int .i64 x.burst) rfl
  have a4 := Blk.cell (hB1.nth 2 rfl) 4 (v := .int .i64 x.rate) rfl
  have a5 := Blk.cell (hB1.nth 2 rfl) 5 (v := .int .i64 x.id) rfl
  have a6 := Blk.cell (hB1.nth 2 rfl) 6 (v := .string x.more) rfl
  have HB := Lib.hid hB1
  clear hB1
  go_wp2_with fail
  (with_reducible refine (k2 _).mono ?_); rintro e1 W2 ⟨rfl, hb2⟩
  have hB2 := HB.out.box hb2 35 #[.int .i64 c.tag, .string c.body]
  clear a0 a1 a2 a3 a4 a5 a6 HB hb2 k2
  have b0 := Blk.cell (hB2.nth 2 rfl) 0 (v := .int .i64 d.tag) rfl
  have b1 := Blk.cell (hB2.nth 2 rfl) 1 (v := .string d.body) rfl
  have HB := Lib.hid hB2
  clear hB2
  go_wp2_with fail
  (with_reducible refine (k3 _).mono ?_); rintro e1 W3 ⟨rfl, hb3⟩
  have hB3 := HB.out.box hb3 23 #[.bool y.sl, .bool y.fec, .int .i64 y.rows, .int .i64 y.burst, .int .i64 y.rate, .int .i64 y.id, .string y.more]
  clear b0 b1 HB hb3 k3
  have b0 := Blk.cell (hB3.nth 3 rfl) 0 (v := .int .i64 d.tag) rfl
  have b1 := Blk.cell (hB3.nth 3 rfl) 1 (v := .string d.body) rfl
  have HB := Lib.hid hB3
  clear hB3
  go_wp2_with fail
  (with_reducible refine (k4 _).mono ?_); rintro e1 W4 ⟨rfl, hb4⟩
  have hB4 := HB.out.box hb4 38 #[.bool y.sl, .bool y.fec, .int .i64 y.rows, .int .i64 y.burst, .int .i64 y.rate, .int .i64 y.id, .string y.more]
  clear b0 b1 HB hb4 k4
  have b0 := Blk.cell (hB4.nth 3 rfl) 0 (v := .int .i64 c.tag) rfl
  have b1 := Blk.cell (hB4.nth 3 rfl) 1 (v := .string c.body) rfl
  have c0 := Blk.cell (hB4.nth 2 rfl) 0 (v := .int .i64 c.tag) rfl
  have c1 := Blk.cell (hB4.nth 2 rfl) 1 (v := .string c.body) rfl
  have HB := Lib.hid hB4
  clear hB4
  go_wp2_with fail
  (with_reducible refine (k5 _).mono ?_); rintro e1 W5 ⟨rfl, hb5⟩
  have hB5 := HB.out.below hb5
  clear b0 b1 c0 c1 HB hb5 k5
  have b0 := Blk.cell (hB5.nth 1 rfl) 0 (v := .bool y.sl) rfl
  have b1 := Blk.cell (hB5.nth 1 rfl) 1 (v := .bool y.fec) rfl
  have b2 := Blk.cell (hB5.nth 1 rfl) 2 (v := .int .i64 y.rows) rfl
  have b3 := Blk.cell (hB5.nth 1 rfl) 3 (v := .int .i64 y.burst) rfl
  have b4 := Blk.cell (hB5.nth 1 rfl) 4 (v := .int .i64 y.rate) rfl
  have b5 := Blk.cell (hB5.nth 1 rfl) 5 (v := .int .i64 y.id) rfl
  have b6 := Blk.cell (hB5.nth 1 rfl) 6 (v := .string y.more) rfl
  have c0 := Blk.cell (hB5.nth 0 rfl) 0 (v := .bool y.sl) rfl
  have c1 := Blk.cell (hB5.nth 0 rfl) 1 (v := .bool y.fec) rfl
  have c2 := Blk.cell (hB5.nth 0 rfl) 2 (v := .int .i64 y.rows) rfl
  have c3 := Blk.cell (hB5.nth 0 rfl) 3 (v := .int .i64 y.burst) rfl
  have c4 := Blk.cell (hB5.nth 0 rfl) 4 (v := .int .i64 y.rate) rfl
  have c5 := Blk.cell (hB5.nth 0 rfl) 5 (v := .int .i64 y.id) rfl
  have c6 := Blk.cell (hB5.nth 0 rfl) 6 (v := .string y.more) rfl
  have HB := Lib.hid hB5
  clear hB5
  go_wp2_with fail
  (with_reducible refine (awake_any _).mono ?_); rintro e1 W6 ⟨rfl, hb6⟩
  have hE := (HB.out.below hb6).be
  clear HB b0 b1 b2 b3 b4 b5 b6 c0 c1 c2 c3 c4 c5 c6
  go_wp2_with fail
  go_ret
  exact ⟨rfl, hE⟩
theorem slices_any (x : Sl) (d : Dc) (w : World) : Calls Try.prog 4 #[.agg x.vals, .agg #[.int .i64 d.tag, .string d.body]] w fun e w' => e = .returned (.bool true) ∧ Below w.heap.size w w' := by
  by_cases h : x.more.size ≤ 300 ∧ d.body.size ≤ 300
  · exact slices_go x d w h.1 h.2
  · exact slices_long x d w (by omega)
end Go.Proofs.Ytbceakdifklocaa.DsO
