/- descr: a Slice as a descriptor. -/
import Derived.Test.YtbceakdifklocaaDsA
import Derived.Laws.BytesArg
import Derived.Outline
import Derived.Deep.RegionHeld3
namespace Go.Proofs.Ytbceakdifklocaa.DsB
open Go.RowKit Go.Proofs.Ytbceakdifklocaa.Q Go.Proofs.Ytbceakdifklocaa.Mem Go.Proofs.Ytbceakdifklocaa.DsA

/-- a Slice -/
structure Sl where
  sl : Bool
  fec : Bool
  rows : Int
  burst : Int
  rate : Int
  id : Int
  more : ByteArray
def Sl.vals (x : Sl) : Array Value := #[.bool x.sl, .bool x.fec, .int .i64 x.rows, .int .i64 x.burst, .int .i64 x.rate, .int .i64 x.id, .string x.more]
abbrev nob : ByteArray := { data := #[] }
def okRows (r : Int) : Prop := r = 256 ∨ r = 512 ∨ r = 768 ∨ r = 1024
instance (r : Int) : Decidable (okRows r) := by unfold okRows; infer_instance
def Sl.may (x : Sl) : Bool := decide (okRows x.rows) && in1 255 x.burst && in1 15 x.rate && in1 15 x.id
def Sl.b0 (x : Sl) : Int := (if x.sl then 128 else 0) + (if x.fec then 32 else 0) + 24 + x.rows / 256 - 1
def Sl.body (x : Sl) : ByteArray := strOfNums [x.b0, x.burst, x.rate * 16 + x.id] ++ x.more
def Sl.makeE (x : Sl) : Int := if x.may then (if 252 < x.more.size then 11 else 0) else 15

theorem rows_no1 {r : Int} (h : ¬ okRows r) : (r.tmod 256 != 0) = true ∨ ((r.tmod 256 != 0) = false ∧ decide (r < 256) = true) ∨ ((r.tmod 256 != 0) = false ∧ decide (r < 256) = false ∧ decide (1024 < r) = true) := by
  by_cases h1 : r.tmod 256 = 0
  · refine Or.inr ?_
    by_cases h2 : r < 256
    · exact Or.inl ⟨by simpa using h1, by simpa using h2⟩
    · refine Or.inr ⟨by simpa using h1, by simpa using h2, ?_⟩
      rw [Int.tmod_eq_emod_of_nonneg (by omega)] at h1
      have : 1024 < r := by
        unfold okRows at h
        omega
      simpa using this
  · exact Or.inl (by simpa using h1)

theorem alloc2 (w : World) (o o' : Obj) : Below w.heap.size w ((w.alloc o).alloc o') := ((Below.refl _ _).alloc (Nat.le_refl _) _).alloc (by simp) _
theorem within_new (most : Int) (V : World) (L : List Int) (n g : Nat) (cs : Array Value) (hn : L.length = n) (hc : cs = (L.map (Value.int .i64)).toArray) (hg : g = V.heap.size) (hl : L.length ≤ 1099511627776) :
    Calls Try.prog 38 #[.int .i64 most, .slice (some ⟨g, 0, none⟩) n n] (V.alloc (.cells cs 3)) fun e w' => e = .returned (.bool (inB most L)) ∧ Below V.heap.size V w' := by
  have q : Blk (V.alloc (.cells cs 3)) g 3 cs := Blk.newAt _ _ _ hg
  have := within_any most (some ⟨g, 0, none⟩) n L (V.alloc (.cells cs 3)) hl (ints_blk q hc)
  rw [hn] at this
  exact this.mono fun e w' ⟨h1, h2⟩ => ⟨h1, ((Below.refl _ _).alloc (Nat.le_refl _) _).trans (h2.mono (by simp))⟩

set_option maxRecDepth 100000 in
theorem make_rows (x : Sl) (w : World) (h : ¬ okRows x.rows) :
    Calls Try.prog 11 #[.agg x.vals] w fun e w' => e = .returned (.tuple #[.agg #[.int .i64 0, .string nob], .int .i64 15]) ∧ Below w.heap.size w w' := by
  obtain ⟨sl, fec, rows, burst, rate, id, more⟩ := x
  rcases rows_no1 h with h1 | ⟨h1, h2⟩ | ⟨h1, h2, h3⟩
  all_goals
    clear h
    unfold Sl.vals
    go_enter Try.func11, Try.ntmps11
    go_wp2_with fail
    exact bodyPost_ret (v := .tuple #[.agg #[.int .i64 0, .string nob], .int .i64 15]) (by simp [results, Try.results11, go_sem]) rfl ⟨rfl, alloc2 _ _ _⟩

/-- behind a call: the box, the result -/
structure Bx (w W : World) (x : Sl) : Prop where
  b : Blk W w.heap.size 23 x.vals
  d : Blk W (w.heap.size + 1) 30 #[.int .i64 0, .string nob]
  be : Below w.heap.size w W
theorem Bx.below {w W W' : World} {x : Sl} (h : Bx w W x) (hb : Below W.heap.size W W') : Bx w W' x :=
  ⟨Blk.below h.b hb (Blk.lt h.b), Blk.below h.d hb (Blk.lt h.d), h.be.trans (hb.mono h.be.size)⟩
theorem bx_new (w : World) (x : Sl) : Bx w ((w.alloc (.cells x.vals 23)).alloc (.cells #[.int .i64 0, .string nob] 30)) x :=
  ⟨Blk.alloc (Blk.new w _ _) _, Blk.newAt _ _ _ (by simp), alloc2 _ _ _⟩

theorem rows_ok {r : Int} (h : okRows r) : (r.tmod 256 != 0) = false ∧ decide (r < 256) = false ∧ decide (1024 < r) = false ∧ (r % 256 != 0) = false ∧ 1 ≤ r / 256 ∧ r / 256 ≤ 4 := by
  unfold okRows at h
  rcases h with rfl | rfl | rfl | rfl <;> decide


set_option maxRecDepth 100000 in
theorem make_burst (x : Sl) (w : World) (h : okRows x.rows) (hB : in1 255 x.burst = false) :
    Calls Try.prog 11 #[.agg x.vals] w fun e w' => e = .returned (.tuple #[.agg #[.int .i64 0, .string nob], .int .i64 15]) ∧ Below w.heap.size w w' := by
  obtain ⟨sl, fec, rows, burst, rate, id, more⟩ := x
  obtain ⟨t1, t2, t3, _, _, _⟩ := rows_ok h
  have hi : inB 255 [burst] = false := by simp [inB]; simpa using hB
  have kw := fun V g hg => within_new 255 V [burst] 1 g #[.int .i64 burst] rfl rfl hg (by simp)
  rw [hi] at kw
  have hx := bx_new w ⟨sl, fec, rows, burst, rate, id, more⟩
  clear h hB
  unfold Sl.vals at hx ⊢
  dsimp only at t1 t2 t3 hx ⊢
  go_enter Try.func11, Try.ntmps11
  go_wp2_with fail
  (with_reducible refine (kw _ _ (by simp)).mono ?_); rintro e W1 ⟨rfl, hb⟩
  clear kw
  have h1 := hx.below hb
  clear hx hb hi
  have f2 := Blk.cell h1.b 2 (v := .int .i64 rows) rfl
  have f3 := Blk.cell h1.b 3 (v := .int .i64 burst) rfl
  have f4 := Blk.cell h1.b 4 (v := .int .i64 rate) rfl
  have f5 := Blk.cell h1.b 5 (v := .int .i64 id) rfl
  have f6 := Blk.cell h1.b 6 (v := .string more) rfl
  have g0 := Blk.cell h1.d 0 (v := .int .i64 0) rfl
  have g1 := Blk.cell h1.d 1 (v := .string nob) rfl
  have z0 := Blk.frozen h1.d 0
  have z1 := Blk.frozen h1.d 1
  have hend : Below w.heap.size w ((W1.setCell ⟨w.heap.size + 1, 0, none⟩ (.int .i64 0)).setCell ⟨w.heap.size + 1, 1, none⟩ (.string (nob))) := (h1.be.setCell (p := ⟨w.heap.size + 1, 0, none⟩) (by show w.heap.size ≤ w.heap.size + 1; omega) _).setCell (p := ⟨w.heap.size + 1, 1, none⟩) (by show w.heap.size ≤ w.heap.size + 1; omega) _
  have y0 := Blk.cell ((h1.d.set_ 0 (.int .i64 0)).set_ 1 (.string (nob))) 0 (v := .int .i64 0) rfl
  have y1 := Blk.cell ((h1.d.set_ 0 (.int .i64 0)).set_ 1 (.string (nob))) 1 (v := .string (nob)) rfl
  have HE := Lib.hid hend
  clear hend
  go_wp2_with fail
  exact bodyPost_ret (v := .tuple #[.agg #[.int .i64 0, .string (nob)], .int .i64 15]) (by simp [results, Try.results11, go_sem, y0, y1]) rfl ⟨rfl, HE.out⟩


set_option maxRecDepth 100000 in
theorem make_rate (x : Sl) (w : World) (h : okRows x.rows) (hB : in1 255 x.burst = true) (hR : inB 15 [x.rate, x.id] = false) :
    Calls Try.prog 11 #[.agg x.vals] w fun e w' => e = .returned (.tuple #[.agg #[.int .i64 0, .string nob], .int .i64 15]) ∧ Below w.heap.size w w' := by
  obtain ⟨sl, fec, rows, burst, rate, id, more⟩ := x
  obtain ⟨t1, t2, t3, t4, t5, t6⟩ := rows_ok h
  have hi : inB 255 [burst] = true := by simp [inB]; simpa using hB
  have kw := fun V g hg => within_new 255 V [burst] 1 g #[.int .i64 burst] rfl rfl hg (by simp)
  rw [hi] at kw
  have kv := fun V g hg => within_new 15 V [rate, id] 2 g #[.int .i64 rate, .int .i64 id] rfl rfl hg (by simp)
  rw [hR] at kv
  have hx := bx_new w ⟨sl, fec, rows, burst, rate, id, more⟩
  clear h hR
  unfold Sl.vals at hx ⊢
  dsimp only at t1 t2 t3 t4 t5 t6 hx ⊢
  go_enter Try.func11, Try.ntmps11
  go_wp2_with fail
  (with_reducible refine (kw _ _ (by simp)).mono ?_); rintro e W1 ⟨rfl, hb⟩
  clear kw
  have h1 := hx.below hb
  clear hx hb hi
  have f2 := Blk.cell h1.b 2 (v := .int .i64 rows) rfl
  have f3 := Blk.cell h1.b 3 (v := .int .i64 burst) rfl
  have f4 := Blk.cell h1.b 4 (v := .int .i64 rate) rfl
  have f5 := Blk.cell h1.b 5 (v := .int .i64 id) rfl
  have f6 := Blk.cell h1.b 6 (v := .string more) rfl
  have g0 := Blk.cell h1.d 0 (v := .int .i64 0) rfl
  have g1 := Blk.cell h1.d 1 (v := .string nob) rfl
  have z0 := Blk.frozen h1.d 0
  have z1 := Blk.frozen h1.d 1
  go_wp2_with fail
  (with_reducible refine (kv _ _ (by simp)).mono ?_); rintro e W2 ⟨rfl, hb⟩
  clear kv f2 f3 f4 f5 f6 g0 g1 z0 z1
  have h2 := h1.below hb
  clear h1 hb
  have f2 := Blk.cell h2.b 2 (v := .int .i64 rows) rfl
  have f3 := Blk.cell h2.b 3 (v := .int .i64 burst) rfl
  have f4 := Blk.cell h2.b 4 (v := .int .i64 rate) rfl
  have f5 := Blk.cell h2.b 5 (v := .int .i64 id) rfl
  have f6 := Blk.cell h2.b 6 (v := .string more) rfl
  have g0 := Blk.cell h2.d 0 (v := .int .i64 0) rfl
  have g1 := Blk.cell h2.d 1 (v := .string nob) rfl
  have z0 := Blk.frozen h2.d 0
  have z1 := Blk.frozen h2.d 1
  have hend : Below w.heap.size w ((W2.setCell ⟨w.heap.size + 1, 0, none⟩ (.int .i64 0)).setCell ⟨w.heap.size + 1, 1, none⟩ (.string (nob))) := (h2.be.setCell (p := ⟨w.heap.size + 1, 0, none⟩) (by show w.heap.size ≤ w.heap.size + 1; omega) _).setCell (p := ⟨w.heap.size + 1, 1, none⟩) (by show w.heap.size ≤ w.heap.size + 1; omega) _
  have y0 := Blk.cell ((h2.d.set_ 0 (.int .i64 0)).set_ 1 (.string (nob))) 0 (v := .int .i64 0) rfl
  have y1 := Blk.cell ((h2.d.set_ 0 (.int .i64 0)).set_ 1 (.string (nob))) 1 (v := .string (nob)) rfl
  have HE := Lib.hid hend
  clear hend
  go_wp2_with fail
  exact bodyPost_ret (v := .tuple #[.agg #[.int .i64 0, .string (nob)], .int .i64 15]) (by simp [results, Try.results11, go_sem, y0, y1]) rfl ⟨rfl, HE.out⟩

set_option maxRecDepth 100000 in
theorem make_long (x : Sl) (w : World) (h : okRows x.rows) (hB : in1 255 x.burst = true) (hR : inB 15 [x.rate, x.id] = true) (hM : 252 < x.more.size) :
    Calls Try.prog 11 #[.agg x.vals] w fun e w' => e = .returned (.tuple #[.agg #[.int .i64 0, .string nob], .int .i64 11]) ∧ Below w.heap.size w w' := by
  have t9 : decide (252 < (x.more.size : Int)) = true := by simp; omega
  obtain ⟨sl, fec, rows, burst, rate, id, more⟩ := x
  obtain ⟨t1, t2, t3, t4, t5, t6⟩ := rows_ok h
  have hi : inB 255 [burst] = true := by simp [inB]; simpa using hB
  have kw := fun V g hg => within_new 255 V [burst] 1 g #[.int .i64 burst] rfl rfl hg (by simp)
  rw [hi] at kw
  have kv := fun V g hg => within_new 15 V [rate, id] 2 g #[.int .i64 rate, .int .i64 id] rfl rfl hg (by simp)
  rw [hR] at kv
  have hx := bx_new w ⟨sl, fec, rows, burst, rate, id, more⟩
  clear h hR
  unfold Sl.vals at hx ⊢
  dsimp only at t1 t2 t3 t4 t5 t6 hx ⊢
  go_enter Try.func11, Try.ntmps11
  go_wp2_with fail
  (with_reducible refine (kw _ _ (by simp)).mono ?_); rintro e W1 ⟨rfl, hb⟩
  clear kw
  have h1 := hx.below hb
  clear hx hb hi
  have f2 := Blk.cell h1.b 2 (v := .int .i64 rows) rfl
  have f3 := Blk.cell h1.b 3 (v := .int .i64 burst) rfl
  have f4 := Blk.cell h1.b 4 (v := .int .i64 rate) rfl
  have f5 := Blk.cell h1.b 5 (v := .int .i64 id) rfl
  have f6 := Blk.cell h1.b 6 (v := .string more) rfl
  have g0 := Blk.cell h1.d 0 (v := .int .i64 0) rfl
  have g1 := Blk.cell h1.d 1 (v := .string nob) rfl
  have z0 := Blk.frozen h1.d 0
  have z1 := Blk.frozen h1.d 1
  go_wp2_with fail
  (with_reducible refine (kv _ _ (by simp)).mono ?_); rintro e W2 ⟨rfl, hb⟩
  clear kv f2 f3 f4 f5 f6 g0 g1 z0 z1
  have h2 := h1.below hb
  clear h1 hb
  have f2 := Blk.cell h2.b 2 (v := .int .i64 rows) rfl
  have f3 := Blk.cell h2.b 3 (v := .int .i64 burst) rfl
  have f4 := Blk.cell h2.b 4 (v := .int .i64 rate) rfl
  have f5 := Blk.cell h2.b 5 (v := .int .i64 id) rfl
  have f6 := Blk.cell h2.b 6 (v := .string more) rfl
  have g0 := Blk.cell h2.d 0 (v := .int .i64 0) rfl
  have g1 := Blk.cell h2.d 1 (v := .string nob) rfl
  have z0 := Blk.frozen h2.d 0
  have z1 := Blk.frozen h2.d 1
  have hend : Below w.heap.size w ((W2.setCell ⟨w.heap.size + 1, 0, none⟩ (.int .i64 0)).setCell ⟨w.heap.size + 1, 1, none⟩ (.string (nob))) := (h2.be.setCell (p := ⟨w.heap.size + 1, 0, none⟩) (by show w.heap.size ≤ w.heap.size + 1; omega) _).setCell (p := ⟨w.heap.size + 1, 1, none⟩) (by show w.heap.size ≤ w.heap.size + 1; omega) _
  have y0 := Blk.cell ((h2.d.set_ 0 (.int .i64 0)).set_ 1 (.string (nob))) 0 (v := .int .i64 0) rfl
  have y1 := Blk.cell ((h2.d.set_ 0 (.int .i64 0)).set_ 1 (.string (nob))) 1 (v := .string (nob)) rfl
  have HE := Lib.hid hend
  clear hend
  go_wp2_with fail
  exact bodyPost_ret (v := .tuple #[.agg #[.int .i64 0, .string (nob)], .int .i64 11]) (by simp [results, Try.results11, go_sem, y0, y1]) rfl ⟨rfl, HE.out⟩

theorem head_or (a b : Bool) (r : Int) (h1 : 1 ≤ r) (h2 : r ≤ 4) : bits .or .i64 (bits .or .i64 (bits .or .i64 (if a = true then 128 else 0) (if b = true then 32 else 0)) 24) r = (if a = true then 128 else 0) + (if b = true then 32 else 0) + 24 + r := by
  have : r = 1 ∨ r = 2 ∨ r = 3 ∨ r = 4 := by omega
  rcases this with rfl | rfl | rfl | rfl <;> cases a <;> cases b <;> rfl
theorem or_low (r i : Int) (hr : 0 ≤ r ∧ r ≤ 15) (hi : 0 ≤ i ∧ i ≤ 15) : bits .or .i64 (r * 16) i = r * 16 + i := by
  obtain ⟨a, rfl⟩ : ∃ a : Nat, r = a := ⟨r.toNat, by omega⟩
  obtain ⟨b, rfl⟩ : ∃ b : Nat, i = b := ⟨i.toNat, by omega⟩
  have ha : a < 16 := by omega
  have hb : b < 16 := by omega
  have := (bits_nat .i64 8 (by decide) (fun n h1 h2 => by rw [IntKind.wrap_i64]; omega) (a * 16) b (by omega) (by omega)).2
  rw [show ((a * 16 : Nat) : Int) = (a : Int) * 16 by omega] at this
  rw [this]
  have e := Nat.two_pow_add_eq_or_of_lt (i := 4) hb a
  rw [show a * 16 = 2 ^ 4 * a by omega, ← e]
  omega

set_option maxRecDepth 100000 in
set_option maxHeartbeats 1600000 in
theorem make_ok (x : Sl) (w : World) (h : okRows x.rows) (hB : in1 255 x.burst = true) (hR : inB 15 [x.rate, x.id] = true) (hM : x.more.size ≤ 252) :
    Calls Try.prog 11 #[.agg x.vals] w fun e w' => e = .returned (.tuple #[.agg #[.int .i64 119, .string x.body], .int .i64 0]) ∧ Below w.heap.size w w' := by
  have t9 : decide (252 < (x.more.size : Int)) = false := by simp; omega
  have hb0 : 0 ≤ x.burst ∧ x.burst ≤ 255 := by simpa [in1] using hB
  have hr0 : (0 ≤ x.rate ∧ x.rate ≤ 15) ∧ (0 ≤ x.id ∧ x.id ≤ 15) := by simpa [inB, in1] using hR
  obtain ⟨sl, fec, rows, burst, rate, id, more⟩ := x
  obtain ⟨t1, t2, t3, t4, t5, t6⟩ := rows_ok h
  have hi : inB 255 [burst] = true := by simp [inB]; simpa using hB
  have kw := fun V g hg => within_new 255 V [burst] 1 g #[.int .i64 burst] rfl rfl hg (by simp)
  rw [hi] at kw
  have kv := fun V g hg => within_new 15 V [rate, id] 2 g #[.int .i64 rate, .int .i64 id] rfl rfl hg (by simp)
  rw [hR] at kv
  have hx := bx_new w ⟨sl, fec, rows, burst, rate, id, more⟩
  clear h hR
  unfold Sl.vals at hx ⊢
  dsimp only at t1 t2 t3 t4 t5 t6 hx ⊢
  go_enter Try.func11, Try.ntmps11
  go_wp2_with fail
  (with_reducible refine (kw _ _ (by simp)).mono ?_); rintro e W1 ⟨rfl, hb⟩
  clear kw
  have h1 := hx.below hb
  clear hx hb hi
  have f2 := Blk.cell h1.b 2 (v := .int .i64 rows) rfl
  have f3 := Blk.cell h1.b 3 (v := .int .i64 burst) rfl
  have f4 := Blk.cell h1.b 4 (v := .int .i64 rate) rfl
  have f5 := Blk.cell h1.b 5 (v := .int .i64 id) rfl
  have f6 := Blk.cell h1.b 6 (v := .string more) rfl
  have g0 := Blk.cell h1.d 0 (v := .int .i64 0) rfl
  have g1 := Blk.cell h1.d 1 (v := .string nob) rfl
  have z0 := Blk.frozen h1.d 0
  have z1 := Blk.frozen h1.d 1
  go_wp2_with fail
  (with_reducible refine (kv _ _ (by simp)).mono ?_); rintro e W2 ⟨rfl, hb⟩
  clear kv f2 f3 f4 f5 f6 g0 g1 z0 z1
  have h2 := h1.below hb
  clear h1 hb
  have f6 := Blk.cell h2.b 6 (v := .string more) rfl
  go_wp2_with fail
  have f0 := Blk.cell h2.b 0 (v := .bool sl) rfl
  have f1 := Blk.cell h2.b 1 (v := .bool fec) rfl
  have f2 := Blk.cell h2.b 2 (v := .int .i64 rows) rfl
  have f3 := Blk.cell h2.b 3 (v := .int .i64 burst) rfl
  have f4 := Blk.cell h2.b 4 (v := .int .i64 rate) rfl
  have f5 := Blk.cell h2.b 5 (v := .int .i64 id) rfl
  have hlt := Blk.lt h2.b
  obtain ⟨B1, hB1⟩ : ∃ B : Int, (if sl = true then 128 else 0) = B := ⟨_, rfl⟩
  obtain ⟨B2, hB2⟩ : ∃ B : Int, (if fec = true then 32 else 0) = B := ⟨_, rfl⟩
  have kb1 := fun w => bit_any sl 128 w
  have kb2 := fun w => bit_any fec 32 w
  rw [hB1] at kb1
  rw [hB2] at kb2
  have HB1 := Lib.hid hB1
  have HB2 := Lib.hid hB2
  have hr5 : 24 ≤ B1 + B2 + 24 + rows / 256 ∧ B1 + B2 + 24 + rows / 256 ≤ 256 := by
    have h1 := HB1.out; have h2 := HB2.out
    constructor <;> (split at h1 <;> split at h2 <;> omega)
  have q1 := head_or sl fec (rows / 256) t5 t6
  rw [hB1, hB2] at q1
  have q3 : IntKind.i64.wrap (rows.tdiv 256) = rows / 256 := by rw [Int.tdiv_eq_ediv_of_nonneg (by omega), IntKind.wrap_i64]; omega
  have q5 : IntKind.i64.wrap (B1 + B2 + 24 + rows / 256 - 1) = B1 + B2 + 24 + rows / 256 - 1 := by rw [IntKind.wrap_i64]; omega
  have q6 : IntKind.u8.wrap (B1 + B2 + 24 + rows / 256 - 1) = B1 + B2 + 24 + rows / 256 - 1 := by rw [IntKind.wrap_u8]; omega
  have q7 : IntKind.u8.wrap burst = burst := by rw [IntKind.wrap_u8]; have h9 := hb0.1; have h8 := hb0.2; omega
  have q8 : IntKind.i64.wrap (rate * 16) = rate * 16 := by rw [IntKind.wrap_i64]; have h9 := hr0.1; have h8 := hr0.2; omega
  have q9 : bits .or .i64 (rate * 16) id = rate * 16 + id := by exact or_low rate id hr0.1 hr0.2
  have q10 : IntKind.u8.wrap (rate * 16 + id) = rate * 16 + id := by rw [IntKind.wrap_u8]; have h9 := hr0.1; have h8 := hr0.2; omega
  have HR5 := Lib.hid hr5
  clear hB1 hB2 hr5 hb0 hr0
  have HX := Lib.hid (show Sl.body ⟨sl, fec, rows, burst, rate, id, more⟩ = strOfNums [B1 + B2 + 24 + rows / 256 - 1, burst, rate * 16 + id] ++ more by unfold Sl.body Sl.b0; rw [← HB1.out, ← HB2.out])
  go_region_held3 (fun w' => w'.cell? ⟨w.heap.size, 0, none⟩ = some (.bool sl) ∧ w'.cell? ⟨w.heap.size, 1, none⟩ = some (.bool fec) ∧ w'.cell? ⟨w.heap.size, 2, none⟩ = some (.int .i64 rows) ∧ w'.cell? ⟨w.heap.size, 3, none⟩ = some (.int .i64 burst) ∧ w'.cell? ⟨w.heap.size, 4, none⟩ = some (.int .i64 rate) ∧ w'.cell? ⟨w.heap.size, 5, none⟩ = some (.int .i64 id))
    (go_keep)
    (first | (go_at_call 39; refine (kb1 _).mono ?_; rintro e w' ⟨rfl, rfl⟩) | (go_at_call 39; refine (kb2 _).mono ?_; rintro e w' ⟨rfl, rfl⟩))
  all_goals
    clear f0 f1 f2 f3 f4 f5 f6 kb1 kb2 q1 q3 q5 q6 q7 q8 q9 q10 t1 t2 t3 t4 t5 t6 t9
    go_wp2_with fail
    refine wp_gen (fun V => Bx w V ⟨sl, fec, rows, burst, rate, id, more⟩ ∧ Blk V W2.heap.size 98 #[.int .u8 (B1 + B2 + 24 + rows / 256 - 1), .int .u8 burst, .int .u8 (rate * 16 + id)]) ⟨h2.below (below_drewN ((Below.refl _ _).alloc (Nat.le_refl _) _) 1), Blk.drew (Blk.new W2 _ _)⟩ ?_
    intro V ⟨hV, hA⟩
    have f6 := fun p => Blk.cell (blk_ext hV.b p) 6 (v := .string more) rfl
    have hcv : ∀ p, (convert 78 9 (.slice (some ⟨W2.heap.size, 0, none⟩) 3 3)).run Try.prog (ext V p) = .ok (.string (strOfNums [B1 + B2 + 24 + rows / 256 - 1, burst, rate * 16 + id])) (ext V p) := fun p =>
      run_convert_bytes_arg (P := Try.prog) _ 78 5 Try.underlying78 Try.underlying5 W2.heap.size 0 3 3 [B1 + B2 + 24 + rows / 256 - 1, burst, rate * 16 + id] rfl (fun j hj => by
        match j, hj with
        | 0, _ => exact Blk.cell (blk_ext hA p) 0 rfl
        | 1, _ => exact Blk.cell (blk_ext hA p) 1 rfl
        | 2, _ => exact Blk.cell (blk_ext hA p) 2 rfl) _ Try.underlying9
    have hadd : ∀ U : World, (Op.stringOp .add (strOfNums [B1 + B2 + 24 + rows / 256 - 1, burst, rate * 16 + id]) more).run Try.prog U = .ok (.string (strOfNums [B1 + B2 + 24 + rows / 256 - 1, burst, rate * 16 + id] ++ more)) U := fun U =>
      run_string_add_sum U _ _ (by rw [strOfNums_size]; simp only [List.length_cons, List.length_nil]; omega)
    refine Go.Proofs.Ytbceakdifklocaa.Q.region_ext_tail 6 (by kernel_rfl) (by kernel_rfl) ?_
    simp only [List.take_succ_cons, List.take_zero, List.drop_succ_cons, List.drop_zero]
    repeat (go_big_quiet_step (fail))
    refine wpQuiet_nil ?_
    rintro w9 ⟨pq, rfl⟩
    have hW := hV.below (below_ext V pq)
    have g0 := Blk.cell hW.d 0 (v := .int .i64 0) rfl
    have g1 := Blk.cell hW.d 1 (v := .string nob) rfl
    have z0 := Blk.frozen hW.d 0
    have z1 := Blk.frozen hW.d 1
    have hend : Below w.heap.size w (((ext V pq).setCell ⟨w.heap.size + 1, 0, none⟩ (.int .i64 119)).setCell ⟨w.heap.size + 1, 1, none⟩ (.string (strOfNums [B1 + B2 + 24 + rows / 256 - 1, burst, rate * 16 + id] ++ more))) := (hW.be.setCell (p := ⟨w.heap.size + 1, 0, none⟩) (by show w.heap.size ≤ w.heap.size + 1; omega) _).setCell (p := ⟨w.heap.size + 1, 1, none⟩) (by show w.heap.size ≤ w.heap.size + 1; omega) _
    have y0 := Blk.cell ((hW.d.set_ 0 (.int .i64 119)).set_ 1 (.string (strOfNums [B1 + B2 + 24 + rows / 256 - 1, burst, rate * 16 + id] ++ more))) 0 (v := .int .i64 119) rfl
    have y1 := Blk.cell ((hW.d.set_ 0 (.int .i64 119)).set_ 1 (.string (strOfNums [B1 + B2 + 24 + rows / 256 - 1, burst, rate * 16 + id] ++ more))) 1 (v := .string (strOfNums [B1 + B2 + 24 + rows / 256 - 1, burst, rate * 16 + id] ++ more)) rfl
    have HE := Lib.hid hend
    clear hend f6 hcv hadd hV hA hW
    go_wp2_with fail
    exact bodyPost_ret (v := .tuple #[.agg #[.int .i64 119, .string (strOfNums [B1 + B2 + 24 + rows / 256 - 1, burst, rate * 16 + id] ++ more)], .int .i64 0]) (by simp [results, Try.results11, go_sem, y0, y1]) rfl ⟨by rw [HX.out], HE.out⟩
end Go.Proofs.Ytbceakdifklocaa.DsB
