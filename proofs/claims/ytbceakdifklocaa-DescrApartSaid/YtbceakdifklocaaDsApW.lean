/- DescrApart: the walk. -/
import Derived.Test.YtbceakdifklocaaDsApart
namespace Go.Proofs.Ytbceakdifklocaa.DsApW
open Go.RowKit Go.Proofs.Ytbceakdifklocaa.Q Go.Proofs.Ytbceakdifklocaa.Mem Go.Proofs.Ytbceakdifklocaa.DsA Go.Proofs.Ytbceakdifklocaa.DsB Go.Proofs.Ytbceakdifklocaa.DsC Go.Proofs.Ytbceakdifklocaa.DsD Go.Proofs.Ytbceakdifklocaa.DsE Go.Proofs.Ytbceakdifklocaa.DsApart

abbrev cS (x y : Sl) : Array Value := #[.bool x.sl, .bool x.fec, .int .i64 x.rows, .int .i64 x.burst, .int .i64 x.rate, .int .i64 x.id, .string x.more, .bool y.sl, .bool y.fec, .int .i64 y.rows, .int .i64 y.burst, .int .i64 y.rate, .int .i64 y.id, .string y.more]
abbrev cP (x y : Pl) : Array Value := #[.int .i64 x.n, .int .i64 x.o, .int .i64 x.s, .int .i64 x.v, .int .i64 x.t, .int .i64 y.n, .int .i64 y.o, .int .i64 y.s, .int .i64 y.v, .int .i64 y.t]
abbrev cD (d : Dc) : Array Value := #[.int .i64 d.tag, .string d.body]
/-- the boxes -/
structure Bs (w W : World) (x y : Sl) (p q : Pl) : Prop where
  s : Blk W w.heap.size 24 (cS x y)
  p : Blk W (w.heap.size + 1) 27 (cP p q)
  be : Below w.heap.size w W
theorem Bs.below {w W W' : World} {x y : Sl} {p q : Pl} (h : Bs w W x y p q) (hb : Below W.heap.size W W') : Bs w W' x y p q :=
  ⟨Blk.below h.s hb (Blk.lt h.s), Blk.below h.p hb (Blk.lt h.p), h.be.trans (hb.mono h.be.size)⟩
theorem Bs.al {w W : World} {x y : Sl} {p q : Pl} (h : Bs w W x y p q) (o : Obj) : Bs w (W.alloc o) x y p q :=
  h.below ((Below.refl _ _).alloc (Nat.le_refl _) _)
theorem bs_new (w : World) (x y : Sl) (p q : Pl) : Bs w ((w.alloc (.cells (cS x y) 24)).alloc (.cells (cP p q) 27)) x y p q :=
  ⟨Blk.alloc (Blk.new w _ _) _, Blk.newAt _ _ _ (by simp), alloc2 _ _ _⟩


theorem Bs.px {w W : World} {x y : Sl} {p q : Pl} (h : Bs w W x y p q) (e : Ext) : Bs w (ext W e) x y p q := h.below (below_ext W e)

set_option maxRecDepth 100000 in
theorem apart_long (x y : Sl) (p q : Pl) (w : World) (h : 300 < x.more.size ∨ 300 < y.more.size) :
    Calls Try.prog 3 #[.agg (cS x y), .agg (cP p q)] w fun e w' => e = .returned (.bool true) ∧ Below w.heap.size w w' := by
  have hB := bs_new w x y p q
  unfold cS cP
  have hb := hB.be
  by_cases h1 : 300 < x.more.size
  · have t1 : decide (300 < (x.more.size : Int)) = true := by simp; omega
    have a6 := Blk.cell hB.s 6 (v := .string x.more) rfl
    clear h h1 hB
    go_enter Try.func3, Try.ntmps3
    go_wp2_with fail
    (with_reducible refine (awake_any _).mono ?_); rintro e W1 ⟨rfl, hb1⟩
    clear a6
    go_wp2_with fail
    go_ret
    exact ⟨rfl, hb.trans (hb1.mono hb.size)⟩
  · have t1 : decide (300 < (x.more.size : Int)) = false := by simp; omega
    have t2 : decide (300 < (y.more.size : Int)) = true := by simp; omega
    have a6 := Blk.cell hB.s 6 (v := .string x.more) rfl
    have b6 := Blk.cell hB.s 13 (v := .string y.more) rfl
    clear h h1 hB
    go_enter Try.func3, Try.ntmps3
    go_wp2_with fail
    (with_reducible refine (awake_any _).mono ?_); rintro e W1 ⟨rfl, hb1⟩
    clear a6 b6
    go_wp2_with fail
    go_ret
    exact ⟨rfl, hb.trans (hb1.mono hb.size)⟩


set_option maxRecDepth 100000 in
theorem apart_short (x y : Sl) (p q : Pl) (w : World) (h1 : x.more.size ≤ 300) (h2 : y.more.size ≤ 300) :
    Calls Try.prog 3 #[.agg (cS x y), .agg (cP p q)] w fun e w' => e = .returned (.bool true) ∧ Below w.heap.size w w' := by
  have hB := bs_new w x y p q
  unfold cS cP
  have t1 : decide (300 < (x.more.size : Int)) = false := by simp; omega
  have t2 : decide (300 < (y.more.size : Int)) = false := by simp; omega
  have k1 := fun V => make_any x V
  have k2 := fun V => make_any y V
  have k3 := fun V => pmake_any p V
  have k4 := fun V => pmake_any q V
  obtain ⟨ex, hex⟩ : ∃ e, x.makeE = e := ⟨_, rfl⟩
  obtain ⟨ey, hey⟩ : ∃ e, y.makeE = e := ⟨_, rfl⟩
  obtain ⟨ep, hep⟩ : ∃ e, p.makeE = e := ⟨_, rfl⟩
  obtain ⟨eq, heq⟩ : ∃ e, q.makeE = e := ⟨_, rfl⟩
  simp only [Sl.vals, Pl.vals] at k1 k2 k3 k4
  rw [hex] at k1
  rw [hey] at k2
  rw [hep] at k3
  rw [heq] at k4
  have HX := Lib.hid hex
  have HY := Lib.hid hey
  have HP := Lib.hid hep
  have HQ := Lib.hid heq
  have a0 := Blk.cell hB.s 0 (v := .bool x.sl) rfl
  have a1 := Blk.cell hB.s 1 (v := .bool x.fec) rfl
  have a2 := Blk.cell hB.s 2 (v := .int .i64 x.rows) rfl
  have a3 := Blk.cell hB.s 3 (v := .int .i64 x.burst) rfl
  have a4 := Blk.cell hB.s 4 (v := .int .i64 x.rate) rfl
  have a5 := Blk.cell hB.s 5 (v := .int .i64 x.id) rfl
  have a6 := Blk.cell hB.s 6 (v := .string x.more) rfl
  have b6 := Blk.cell hB.s 13 (v := .string y.more) rfl
  have HB := Lib.hid hB
  clear h1 h2 hex hey hep heq hB
  go_enter Try.func3, Try.ntmps3
  go_wp2_with fail
  (with_reducible refine (k1 _).mono ?_); rintro e W1 ⟨rfl, hb1⟩
  have hB1 := (HB.out.below hb1).al (.cells (cD (slD x)) 30)
  have q5 := Blk.new W1 30 (cD (slD x))
  unfold cD at q5 hB1
  clear a0 a1 a2 a3 a4 a5 a6 b6 HB hb1 t1 t2 k1
  have b0 := Blk.cell hB1.s 7 (v := .bool y.sl) rfl
  have b1 := Blk.cell hB1.s 8 (v := .bool y.fec) rfl
  have b2 := Blk.cell hB1.s 9 (v := .int .i64 y.rows) rfl
  have b3 := Blk.cell hB1.s 10 (v := .int .i64 y.burst) rfl
  have b4 := Blk.cell hB1.s 11 (v := .int .i64 y.rate) rfl
  have b5 := Blk.cell hB1.s 12 (v := .int .i64 y.id) rfl
  have b6 := Blk.cell hB1.s 13 (v := .string y.more) rfl
  have HB := Lib.hid hB1
  have Q5 := Lib.hid q5
  clear hB1 q5
  go_wp2_with fail
  (with_reducible refine (k2 _).mono ?_); rintro e W2 ⟨rfl, hb2⟩
  have hB2 := (HB.out.below hb2).al (.cells (cD (slD y)) 30)
  have q5 := Blk.alloc (Blk.below Q5.out hb2 (Blk.lt Q5.out)) (.cells (cD (slD y)) 30)
  have q7 := Blk.new W2 30 (cD (slD y))
  unfold cD at q5 q7 hB2
  clear b0 b1 b2 b3 b4 b5 b6 HB Q5 hb2 k2
  have HB := Lib.hid hB2
  by_cases u1 : ex = 0
  · by_cases u2 : ey = 0
    · subst u1 u2
      have hl := sl_law HX.out HY.out
      have e1 : ∀ V, (Op.equalIn 10000 30 (.agg #[.int .i64 (slD x).tag, .string (slD x).body]) (.agg #[.int .i64 (slD y).tag, .string (slD y).body])).run Try.prog V = .ok (decide (x = y)) V := fun V => by rw [← hl]; exact eqD (slD x) (slD y) V
      have e2 : ∀ V, (Op.equalIn 10000 23 (.agg #[.bool x.sl, .bool x.fec, .int .i64 x.rows, .int .i64 x.burst, .int .i64 x.rate, .int .i64 x.id, .string x.more]) (.agg #[.bool y.sl, .bool y.fec, .int .i64 y.rows, .int .i64 y.burst, .int .i64 y.rate, .int .i64 y.id, .string y.more])).run Try.prog V = .ok (decide (x = y)) V := fun V => eqS x y V
      obtain ⟨b, hb⟩ : ∃ b, decide (x = y) = b := ⟨_, rfl⟩
      rw [hb] at e1 e2
      have t3 : (b != b) = false := by cases b <;> rfl
      clear hl hb
      have A0 := fun z => Blk.cell (hB2.px z).s 0 (v := .bool x.sl) rfl
      have A1 := fun z => Blk.cell (hB2.px z).s 1 (v := .bool x.fec) rfl
      have A2 := fun z => Blk.cell (hB2.px z).s 2 (v := .int .i64 x.rows) rfl
      have A3 := fun z => Blk.cell (hB2.px z).s 3 (v := .int .i64 x.burst) rfl
      have A4 := fun z => Blk.cell (hB2.px z).s 4 (v := .int .i64 x.rate) rfl
      have A5 := fun z => Blk.cell (hB2.px z).s 5 (v := .int .i64 x.id) rfl
      have A6 := fun z => Blk.cell (hB2.px z).s 6 (v := .string x.more) rfl
      have B0 := fun z => Blk.cell (hB2.px z).s 7 (v := .bool y.sl) rfl
      have B1 := fun z => Blk.cell (hB2.px z).s 8 (v := .bool y.fec) rfl
      have B2 := fun z => Blk.cell (hB2.px z).s 9 (v := .int .i64 y.rows) rfl
      have B3 := fun z => Blk.cell (hB2.px z).s 10 (v := .int .i64 y.burst) rfl
      have B4 := fun z => Blk.cell (hB2.px z).s 11 (v := .int .i64 y.rate) rfl
      have B5 := fun z => Blk.cell (hB2.px z).s 12 (v := .int .i64 y.id) rfl
      have B6 := fun z => Blk.cell (hB2.px z).s 13 (v := .string y.more) rfl
      have C0 := fun z => Blk.cell (blk_ext q5 z) 0 (v := .int .i64 (slD x).tag) rfl
      have C1 := fun z => Blk.cell (blk_ext q5 z) 1 (v := .string (slD x).body) rfl
      have D0 := fun z => Blk.cell (blk_ext q7 z) 0 (v := .int .i64 (slD y).tag) rfl
      have D1 := fun z => Blk.cell (blk_ext q7 z) 1 (v := .string (slD y).body) rfl
      clear q5 q7 hB2
      go_wp2_with fail
      refine Go.Proofs.Ytbceakdifklocaa.Q.region_ext (by kernel_rfl) (by kernel_rfl) ?_
      repeat (go_big_quiet_step (fail))
      refine wpQuiet_nil ?_
      rintro w9 ⟨pq, rfl⟩
      have hB3 := HB.out.px pq
      clear A0 A1 A2 A3 A4 A5 A6 B0 B1 B2 B3 B4 B5 B6 C0 C1 D0 D1 HB e1 e2 t3
      have a0 := Blk.cell hB3.p 0 (v := .int .i64 p.n) rfl
      have a1 := Blk.cell hB3.p 1 (v := .int .i64 p.o) rfl
      have a2 := Blk.cell hB3.p 2 (v := .int .i64 p.s) rfl
      have a3 := Blk.cell hB3.p 3 (v := .int .i64 p.v) rfl
      have a4 := Blk.cell hB3.p 4 (v := .int .i64 p.t) rfl
      have HB := Lib.hid hB3
      clear hB3
      go_wp2_with fail
      (with_reducible refine (k3 _).mono ?_); rintro e W3 ⟨rfl, hb3⟩
      have hB4 := (HB.out.below hb3).al (.cells (cD (plD p)) 30)
      have q5 := Blk.new W3 30 (cD (plD p))
      unfold cD at q5 hB4
      clear a0 a1 a2 a3 a4 HB hb3 k3
      have b0 := Blk.cell hB4.p 5 (v := .int .i64 q.n) rfl
      have b1 := Blk.cell hB4.p 6 (v := .int .i64 q.o) rfl
      have b2 := Blk.cell hB4.p 7 (v := .int .i64 q.s) rfl
      have b3 := Blk.cell hB4.p 8 (v := .int .i64 q.v) rfl
      have b4 := Blk.cell hB4.p 9 (v := .int .i64 q.t) rfl
      have HB := Lib.hid hB4
      have Q5 := Lib.hid q5
      clear hB4 q5
      go_wp2_with fail
      (with_reducible refine (k4 _).mono ?_); rintro e W4 ⟨rfl, hb4⟩
      have hB5 := (HB.out.below hb4).al (.cells (cD (plD q)) 30)
      have q5 := Blk.alloc (Blk.below Q5.out hb4 (Blk.lt Q5.out)) (.cells (cD (plD q)) 30)
      have q7 := Blk.new W4 30 (cD (plD q))
      unfold cD at q5 q7 hB5
      clear b0 b1 b2 b3 b4 HB Q5 hb4 k4
      have HB := Lib.hid hB5
      by_cases v1 : ep = 0
      · by_cases v2 : eq = 0
        · subst v1 v2
          have hl := pl_law HP.out HQ.out
          have e1 : ∀ V, (Op.equalIn 10000 30 (.agg #[.int .i64 (plD p).tag, .string (plD p).body]) (.agg #[.int .i64 (plD q).tag, .string (plD q).body])).run Try.prog V = .ok (decide (p = q)) V := fun V => by rw [← hl]; exact eqD (plD p) (plD q) V
          have e2 : ∀ V, (Op.equalIn 10000 26 (.agg #[.int .i64 p.n, .int .i64 p.o, .int .i64 p.s, .int .i64 p.v, .int .i64 p.t]) (.agg #[.int .i64 q.n, .int .i64 q.o, .int .i64 q.s, .int .i64 q.v, .int .i64 q.t])).run Try.prog V = .ok (decide (p = q)) V := fun V => eqP p q V
          obtain ⟨b, hb⟩ : ∃ b, decide (p = q) = b := ⟨_, rfl⟩
          rw [hb] at e1 e2
          have t3 : (b == b) = true := by cases b <;> rfl
          clear hl hb
          have C0 := fun z => Blk.cell (blk_ext q5 z) 0 (v := .int .i64 (plD p).tag) rfl
          have C1 := fun z => Blk.cell (blk_ext q5 z) 1 (v := .string (plD p).body) rfl
          have D0 := fun z => Blk.cell (blk_ext q7 z) 0 (v := .int .i64 (plD q).tag) rfl
          have D1 := fun z => Blk.cell (blk_ext q7 z) 1 (v := .string (plD q).body) rfl
          rw [pl_tag HP.out] at C0 e1
          have A0 := fun z => Blk.cell (hB5.px z).p 0 (v := .int .i64 p.n) rfl
          have A1 := fun z => Blk.cell (hB5.px z).p 1 (v := .int .i64 p.o) rfl
          have A2 := fun z => Blk.cell (hB5.px z).p 2 (v := .int .i64 p.s) rfl
          have A3 := fun z => Blk.cell (hB5.px z).p 3 (v := .int .i64 p.v) rfl
          have A4 := fun z => Blk.cell (hB5.px z).p 4 (v := .int .i64 p.t) rfl
          have B0 := fun z => Blk.cell (hB5.px z).p 5 (v := .int .i64 q.n) rfl
          have B1 := fun z => Blk.cell (hB5.px z).p 6 (v := .int .i64 q.o) rfl
          have B2 := fun z => Blk.cell (hB5.px z).p 7 (v := .int .i64 q.s) rfl
          have B3 := fun z => Blk.cell (hB5.px z).p 8 (v := .int .i64 q.v) rfl
          have B4 := fun z => Blk.cell (hB5.px z).p 9 (v := .int .i64 q.t) rfl
          clear q5 q7 hB5
          go_wp2_with fail
          refine Go.Proofs.Ytbceakdifklocaa.Q.region_ext (by kernel_rfl) (by kernel_rfl) ?_
          repeat (go_big_quiet_step ((go_at_call 10; refine ext_call (awake_any _))))
          refine wpQuiet_nil ?_
          rintro w10 ⟨pq2, rfl⟩
          have hB6 := (HB.out.px pq2).be
          clear A0 A1 A2 A3 A4 B0 B1 B2 B3 B4 C0 C1 D0 D1 HB e1 e2 t3
          go_wp2_with fail
          go_ret
          exact ⟨rfl, hB6⟩
        · have t3 : (ep != 0) = false := by simpa using v1
          have t4 : (eq != 0) = true := by simpa using v2
          clear q5 q7 hB5 v1 v2
          go_wp2_with fail
          (with_reducible refine (awake_any _).mono ?_); rintro e W5 ⟨rfl, hb5⟩
          have hB6 := (HB.out.below hb5).be
          clear HB hb5
          go_wp2_with fail
          go_ret
          exact ⟨rfl, hB6⟩
      · have t3 : (ep != 0) = true := by simpa using v1
        clear q5 q7 hB5 v1
        go_wp2_with fail
        (with_reducible refine (awake_any _).mono ?_); rintro e W5 ⟨rfl, hb5⟩
        have hB6 := (HB.out.below hb5).be
        clear HB hb5
        go_wp2_with fail
        go_ret
        exact ⟨rfl, hB6⟩
    · have t3 : (ex == 0) = true := by simpa using u1
      have t4 : (ey == 0) = false := by simpa using u2
      clear q5 q7 hB2
      go_wp2_with fail
      refine Go.Proofs.Ytbceakdifklocaa.Q.region_ext (by kernel_rfl) (by kernel_rfl) ?_
      repeat (go_big_quiet_step (fail))
      refine wpQuiet_nil ?_
      rintro w9 ⟨pq, rfl⟩
      have hB3 := HB.out.px pq
      clear HB t3 t4
      have a0 := Blk.cell hB3.p 0 (v := .int .i64 p.n) rfl
      have a1 := Blk.cell hB3.p 1 (v := .int .i64 p.o) rfl
      have a2 := Blk.cell hB3.p 2 (v := .int .i64 p.s) rfl
      have a3 := Blk.cell hB3.p 3 (v := .int .i64 p.v) rfl
      have a4 := Blk.cell hB3.p 4 (v := .int .i64 p.t) rfl
      have HB := Lib.hid hB3
      clear hB3
      go_wp2_with fail
      (with_reducible refine (k3 _).mono ?_); rintro e W3 ⟨rfl, hb3⟩
      have hB4 := (HB.out.below hb3).al (.cells (cD (plD p)) 30)
      have q5 := Blk.new W3 30 (cD (plD p))
      unfold cD at q5 hB4
      clear a0 a1 a2 a3 a4 HB hb3 k3
      have b0 := Blk.cell hB4.p 5 (v := .int .i64 q.n) rfl
      have b1 := Blk.cell hB4.p 6 (v := .int .i64 q.o) rfl
      have b2 := Blk.cell hB4.p 7 (v := .int .i64 q.s) rfl
      have b3 := Blk.cell hB4.p 8 (v := .int .i64 q.v) rfl
      have b4 := Blk.cell hB4.p 9 (v := .int .i64 q.t) rfl
      have HB := Lib.hid hB4
      have Q5 := Lib.hid q5
      clear hB4 q5
      go_wp2_with fail
      (with_reducible refine (k4 _).mono ?_); rintro e W4 ⟨rfl, hb4⟩
      have hB5 := (HB.out.below hb4).al (.cells (cD (plD q)) 30)
      have q5 := Blk.alloc (Blk.below Q5.out hb4 (Blk.lt Q5.out)) (.cells (cD (plD q)) 30)
      have q7 := Blk.new W4 30 (cD (plD q))
      unfold cD at q5 q7 hB5
      clear b0 b1 b2 b3 b4 HB Q5 hb4 k4
      have HB := Lib.hid hB5
      by_cases v1 : ep = 0
      · by_cases v2 : eq = 0
        · subst v1 v2
          have hl := pl_law HP.out HQ.out
          have e1 : ∀ V, (Op.equalIn 10000 30 (.agg #[.int .i64 (plD p).tag, .string (plD p).body]) (.agg #[.int .i64 (plD q).tag, .string (plD q).body])).run Try.prog V = .ok (decide (p = q)) V := fun V => by rw [← hl]; exact eqD (plD p) (plD q) V
          have e2 : ∀ V, (Op.equalIn 10000 26 (.agg #[.int .i64 p.n, .int .i64 p.o, .int .i64 p.s, .int .i64 p.v, .int .i64 p.t]) (.agg #[.int .i64 q.n, .int .i64 q.o, .int .i64 q.s, .int .i64 q.v, .int .i64 q.t])).run Try.prog V = .ok (decide (p = q)) V := fun V => eqP p q V
          obtain ⟨b, hb⟩ : ∃ b, decide (p = q) = b := ⟨_, rfl⟩
          rw [hb] at e1 e2
          have t3 : (b == b) = true := by cases b <;> rfl
          clear hl hb
          have C0 := fun z => Blk.cell (blk_ext q5 z) 0 (v := .int .i64 (plD p).tag) rfl
          have C1 := fun z => Blk.cell (blk_ext q5 z) 1 (v := .string (plD p).body) rfl
          have D0 := fun z => Blk.cell (blk_ext q7 z) 0 (v := .int .i64 (plD q).tag) rfl
          have D1 := fun z => Blk.cell (blk_ext q7 z) 1 (v := .string (plD q).body) rfl
          rw [pl_tag HP.out] at C0 e1
          have A0 := fun z => Blk.cell (hB5.px z).p 0 (v := .int .i64 p.n) rfl
          have A1 := fun z => Blk.cell (hB5.px z).p 1 (v := .int .i64 p.o) rfl
          have A2 := fun z => Blk.cell (hB5.px z).p 2 (v := .int .i64 p.s) rfl
          have A3 := fun z => Blk.cell (hB5.px z).p 3 (v := .int .i64 p.v) rfl
          have A4 := fun z => Blk.cell (hB5.px z).p 4 (v := .int .i64 p.t) rfl
          have B0 := fun z => Blk.cell (hB5.px z).p 5 (v := .int .i64 q.n) rfl
          have B1 := fun z => Blk.cell (hB5.px z).p 6 (v := .int .i64 q.o) rfl
          have B2 := fun z => Blk.cell (hB5.px z).p 7 (v := .int .i64 q.s) rfl
          have B3 := fun z => Blk.cell (hB5.px z).p 8 (v := .int .i64 q.v) rfl
          have B4 := fun z => Blk.cell (hB5.px z).p 9 (v := .int .i64 q.t) rfl
          clear q5 q7 hB5
          go_wp2_with fail
          refine Go.Proofs.Ytbceakdifklocaa.Q.region_ext (by kernel_rfl) (by kernel_rfl) ?_
          repeat (go_big_quiet_step ((go_at_call 10; refine ext_call (awake_any _))))
          refine wpQuiet_nil ?_
          rintro w10 ⟨pq2, rfl⟩
          have hB6 := (HB.out.px pq2).be
          clear A0 A1 A2 A3 A4 B0 B1 B2 B3 B4 C0 C1 D0 D1 HB e1 e2 t3
          go_wp2_with fail
          go_ret
          exact ⟨rfl, hB6⟩
        · have t3 : (ep != 0) = false := by simpa using v1
          have t4 : (eq != 0) = true := by simpa using v2
          clear q5 q7 hB5 v1 v2
          go_wp2_with fail
          (with_reducible refine (awake_any _).mono ?_); rintro e W5 ⟨rfl, hb5⟩
          have hB6 := (HB.out.below hb5).be
          clear HB hb5
          go_wp2_with fail
          go_ret
          exact ⟨rfl, hB6⟩
      · have t3 : (ep != 0) = true := by simpa using v1
        clear q5 q7 hB5 v1
        go_wp2_with fail
        (with_reducible refine (awake_any _).mono ?_); rintro e W5 ⟨rfl, hb5⟩
        have hB6 := (HB.out.below hb5).be
        clear HB hb5
        go_wp2_with fail
        go_ret
        exact ⟨rfl, hB6⟩
  · have t3 : (ex == 0) = false := by simpa using u1
    clear q5 q7 hB2
    go_wp2_with fail
    refine Go.Proofs.Ytbceakdifklocaa.Q.region_ext (by kernel_rfl) (by kernel_rfl) ?_
    repeat (go_big_quiet_step (fail))
    refine wpQuiet_nil ?_
    rintro w9 ⟨pq, rfl⟩
    have hB3 := HB.out.px pq
    clear HB t3
    have a0 := Blk.cell hB3.p 0 (v := .int .i64 p.n) rfl
    have a1 := Blk.cell hB3.p 1 (v := .int .i64 p.o) rfl
    have a2 := Blk.cell hB3.p 2 (v := .int .i64 p.s) rfl
    have a3 := Blk.cell hB3.p 3 (v := .int .i64 p.v) rfl
    have a4 := Blk.cell hB3.p 4 (v := .int .i64 p.t) rfl
    have HB := Lib.hid hB3
    clear hB3
    go_wp2_with fail
    (with_reducible refine (k3 _).mono ?_); rintro e W3 ⟨rfl, hb3⟩
    have hB4 := (HB.out.below hb3).al (.cells (cD (plD p)) 30)
    have q5 := Blk.new W3 30 (cD (plD p))
    unfold cD at q5 hB4
    clear a0 a1 a2 a3 a4 HB hb3 k3
    have b0 := Blk.cell hB4.p 5 (v := .int .i64 q.n) rfl
    have b1 := Blk.cell hB4.p 6 (v := .int .i64 q.o) rfl
    have b2 := Blk.cell hB4.p 7 (v := .int .i64 q.s) rfl
    have b3 := Blk.cell hB4.p 8 (v := .int .i64 q.v) rfl
    have b4 := Blk.cell hB4.p 9 (v := .int .i64 q.t) rfl
    have HB := Lib.hid hB4
    have Q5 := Lib.hid q5
    clear hB4 q5
    go_wp2_with fail
    (with_reducible refine (k4 _).mono ?_); rintro e W4 ⟨rfl, hb4⟩
    have hB5 := (HB.out.below hb4).al (.cells (cD (plD q)) 30)
    have q5 := Blk.alloc (Blk.below Q5.out hb4 (Blk.lt Q5.out)) (.cells (cD (plD q)) 30)
    have q7 := Blk.new W4 30 (cD (plD q))
    unfold cD at q5 q7 hB5
    clear b0 b1 b2 b3 b4 HB Q5 hb4 k4
    have HB := Lib.hid hB5
    by_cases v1 : ep = 0
    · by_cases v2 : eq = 0
      · subst v1 v2
        have hl := pl_law HP.out HQ.out
        have e1 : ∀ V, (Op.equalIn 10000 30 (.agg #[.int .i64 (plD p).tag, .string (plD p).body]) (.agg #[.int .i64 (plD q).tag, .string (plD q).body])).run Try.prog V = .ok (decide (p = q)) V := fun V => by rw [← hl]; exact eqD (plD p) (plD q) V
        have e2 : ∀ V, (Op.equalIn 10000 26 (.agg #[.int .i64 p.n, .int .i64 p.o, .int .i64 p.s, .int .i64 p.v, .int .i64 p.t]) (.agg #[.int .i64 q.n, .int .i64 q.o, .int .i64 q.s, .int .i64 q.v, .int .i64 q.t])).run Try.prog V = .ok (decide (p = q)) V := fun V => eqP p q V
        obtain ⟨b, hb⟩ : ∃ b, decide (p = q) = b := ⟨_, rfl⟩
        rw [hb] at e1 e2
        have t3 : (b == b) = true := by cases b <;> rfl
        clear hl hb
        have C0 := fun z => Blk.cell (blk_ext q5 z) 0 (v := .int .i64 (plD p).tag) rfl
        have C1 := fun z => Blk.cell (blk_ext q5 z) 1 (v := .string (plD p).body) rfl
        have D0 := fun z => Blk.cell (blk_ext q7 z) 0 (v := .int .i64 (plD q).tag) rfl
        have D1 := fun z => Blk.cell (blk_ext q7 z) 1 (v := .string (plD q).body) rfl
        rw [pl_tag HP.out] at C0 e1
        have A0 := fun z => Blk.cell (hB5.px z).p 0 (v := .int .i64 p.n) rfl
        have A1 := fun z => Blk.cell (hB5.px z).p 1 (v := .int .i64 p.o) rfl
        have A2 := fun z => Blk.cell (hB5.px z).p 2 (v := .int .i64 p.s) rfl
        have A3 := fun z => Blk.cell (hB5.px z).p 3 (v := .int .i64 p.v) rfl
        have A4 := fun z => Blk.cell (hB5.px z).p 4 (v := .int .i64 p.t) rfl
        have B0 := fun z => Blk.cell (hB5.px z).p 5 (v := .int .i64 q.n) rfl
        have B1 := fun z => Blk.cell (hB5.px z).p 6 (v := .int .i64 q.o) rfl
        have B2 := fun z => Blk.cell (hB5.px z).p 7 (v := .int .i64 q.s) rfl
        have B3 := fun z => Blk.cell (hB5.px z).p 8 (v := .int .i64 q.v) rfl
        have B4 := fun z => Blk.cell (hB5.px z).p 9 (v := .int .i64 q.t) rfl
        clear q5 q7 hB5
        go_wp2_with fail
        refine Go.Proofs.Ytbceakdifklocaa.Q.region_ext (by kernel_rfl) (by kernel_rfl) ?_
        repeat (go_big_quiet_step ((go_at_call 10; refine ext_call (awake_any _))))
        refine wpQuiet_nil ?_
        rintro w10 ⟨pq2, rfl⟩
        have hB6 := (HB.out.px pq2).be
        clear A0 A1 A2 A3 A4 B0 B1 B2 B3 B4 C0 C1 D0 D1 HB e1 e2 t3
        go_wp2_with fail
        go_ret
        exact ⟨rfl, hB6⟩
      · have t3 : (ep != 0) = false := by simpa using v1
        have t4 : (eq != 0) = true := by simpa using v2
        clear q5 q7 hB5 v1 v2
        go_wp2_with fail
        (with_reducible refine (awake_any _).mono ?_); rintro e W5 ⟨rfl, hb5⟩
        have hB6 := (HB.out.below hb5).be
        clear HB hb5
        go_wp2_with fail
        go_ret
        exact ⟨rfl, hB6⟩
    · have t3 : (ep != 0) = true := by simpa using v1
      clear q5 q7 hB5 v1
      go_wp2_with fail
      (with_reducible refine (awake_any _).mono ?_); rintro e W5 ⟨rfl, hb5⟩
      have hB6 := (HB.out.below hb5).be
      clear HB hb5
      go_wp2_with fail
      go_ret
      exact ⟨rfl, hB6⟩
end Go.Proofs.Ytbceakdifklocaa.DsApW
