/- The document's MakeSlice, where it serves. -/
import Derived.Test.YtbceakdifklocaaDsG
import Derived.Deep.RegionHeld3
namespace Go.Proofs.Ytbceakdifklocaa.DsH
open Go.RowKit Go.Proofs.Ytbceakdifklocaa.Q Go.Proofs.Ytbceakdifklocaa.Mem Go.Proofs.Ytbceakdifklocaa.DsA Go.Proofs.Ytbceakdifklocaa.DsB Go.Proofs.Ytbceakdifklocaa.DsC Go.Proofs.Ytbceakdifklocaa.DsD Go.Proofs.Ytbceakdifklocaa.DsE Go.Proofs.Ytbceakdifklocaa.DsF Go.Proofs.Ytbceakdifklocaa.DsG

set_option maxRecDepth 100000
def cur (W : World) (a : Addr) : Value := (W.cell? a).getD undef
theorem cur_of {W : World} {a : Addr} {v : Value} (h : W.cell? a = some v) : W.cell? a = some (cur W a) := by rw [cur, h]; rfl
theorem keepC {w W0 w' : World} {x : Sl} {o : Obj} (h : Rx w W0 x) (hb : Below ((W0.alloc o).drew).heap.size ((W0.alloc o).drew) w') : Rx w w' x :=
  h.below (((below_drewN ((Below.refl W0.heap.size W0).alloc (Nat.le_refl _) o) 1)).trans (hb.mono (by show W0.heap.size ≤ (W0.alloc o).heap.size; simp)))
theorem keepA {w W0 : World} {x : Sl} {o : Obj} (h : Rx w W0 x) : Rx w (W0.alloc o).drew x :=
  h.below (below_drewN ((Below.refl W0.heap.size W0).alloc (Nat.le_refl _) o) 1)
theorem keepR {w W : World} {sl fec : Bool} {rows burst rate id : Int} {more : ByteArray} (h : Rx w W ⟨sl, fec, rows, burst, rate, id, more⟩) :
    W.cell? ⟨w.heap.size, 3, none⟩ = some (.int .i64 burst) ∧ W.cell? ⟨w.heap.size, 4, none⟩ = some (.int .i64 rate) ∧ W.cell? ⟨w.heap.size, 5, none⟩ = some (.int .i64 id) ∧ W.cell? ⟨w.heap.size, 6, none⟩ = some (.string more) ∧ W.cell? ⟨w.heap.size + 1, 0, none⟩ = some (cur W ⟨w.heap.size + 1, 0, none⟩) ∧ W.cell? ⟨w.heap.size + 1, 1, none⟩ = some (cur W ⟨w.heap.size + 1, 1, none⟩) ∧ W.frozen? ⟨w.heap.size + 1, 0, none⟩ = false ∧ W.frozen? ⟨w.heap.size + 1, 1, none⟩ = false :=
  ⟨Blk.cell h.b 3 rfl, Blk.cell h.b 4 rfl, Blk.cell h.b 5 rfl, Blk.cell h.b 6 rfl, cur_of (Blk.cell h.d 0 rfl), cur_of (Blk.cell h.d 1 rfl), Blk.frozen h.d 0, Blk.frozen h.d 1⟩
theorem keepS {W : World} {n : Nat} {c3 c4 c5 c6 v0 v1 d0 d1 : Value} (h3 : W.cell? ⟨n, 3, none⟩ = some c3) (h4 : W.cell? ⟨n, 4, none⟩ = some c4) (h5 : W.cell? ⟨n, 5, none⟩ = some c5) (h6 : W.cell? ⟨n, 6, none⟩ = some c6)
    (k0 : W.cell? ⟨n + 1, 0, none⟩ = some d0) (k1 : W.cell? ⟨n + 1, 1, none⟩ = some d1) (z0 : W.frozen? ⟨n + 1, 0, none⟩ = false) (z1 : W.frozen? ⟨n + 1, 1, none⟩ = false) :
    let V := (W.setCell ⟨n + 1, 0, none⟩ v0).setCell ⟨n + 1, 1, none⟩ v1
    V.cell? ⟨n, 3, none⟩ = some c3 ∧ V.cell? ⟨n, 4, none⟩ = some c4 ∧ V.cell? ⟨n, 5, none⟩ = some c5 ∧ V.cell? ⟨n, 6, none⟩ = some c6 ∧ V.cell? ⟨n + 1, 0, none⟩ = some (cur V ⟨n + 1, 0, none⟩) ∧ V.cell? ⟨n + 1, 1, none⟩ = some (cur V ⟨n + 1, 1, none⟩) ∧ V.frozen? ⟨n + 1, 0, none⟩ = false ∧ V.frozen? ⟨n + 1, 1, none⟩ = false := by
  intro V
  have hb : Below (n + 1) W V := ((Below.refl (n + 1) W).setCell (p := ⟨n + 1, 0, none⟩) (Nat.le_refl _) v0).setCell (p := ⟨n + 1, 1, none⟩) (Nat.le_refl _) v1
  have e : ∀ i, V.cell? ⟨n, i, none⟩ = W.cell? ⟨n, i, none⟩ := fun i => hb.cell (p := ⟨n, i, none⟩) (Nat.lt_succ_self n)
  obtain ⟨a, ha⟩ := cell?_setCell_some (p := ⟨n + 1, 0, none⟩) (x := v0) k0
  obtain ⟨a', ha'⟩ := cell?_setCell_some (p := ⟨n + 1, 1, none⟩) (x := v1) ha
  obtain ⟨b, hb'⟩ := cell?_setCell_some (p := ⟨n + 1, 0, none⟩) (x := v0) k1
  obtain ⟨b', hb''⟩ := cell?_setCell_some (p := ⟨n + 1, 1, none⟩) (x := v1) hb'
  exact ⟨(e 3).trans h3, (e 4).trans h4, (e 5).trans h5, (e 6).trans h6, cur_of ha', cur_of hb'', by simp [V, z0], by simp [V, z1]⟩

set_option maxHeartbeats 6400000 in
theorem rmake_ok (x : Sl) (w : World) (h : okRows x.rows) (h1 : in1 255 x.burst = true) (h2 : in1 15 x.rate = true) (h3 : in1 15 x.id = true) (h4 : x.more.size ≤ 252) :
    Calls Try.prog 13 #[.agg x.vals] w fun e w' => e = .returned (.tuple #[.agg #[.int .i64 119, .string x.body], .int .i64 0]) ∧ Below w.heap.size w w' := by
  have hx := rx_new w x
  have hB0 : ∃ N, x.b0 = N ∧ 0 ≤ N ∧ N ≤ 255 := ⟨_, rfl, by unfold Sl.b0; unfold okRows at h; cases x.sl <;> cases x.fec <;> simp <;> omega, by unfold Sl.b0; unfold okRows at h; cases x.sl <;> cases x.fec <;> simp <;> omega⟩
  obtain ⟨sl, fec, rows, burst, rate, id, more⟩ := x
  have kb := fun V => rin_any burst 255 V
  have kr := fun V => rin_any rate 15 V
  have ki := fun V => rin_any id 15 V
  dsimp only at h h1 h2 h3 h4
  have t9 : decide (252 < (more.size : Int)) = false := by simp; omega
  have b1 : 0 ≤ burst ∧ burst ≤ 255 := by simpa [in1] using h1
  have b2 : 0 ≤ rate ∧ rate ≤ 15 := by simpa [in1] using h2
  have b3 : 0 ≤ id ∧ id ≤ 15 := by simpa [in1] using h3
  rw [h1] at kb
  rw [h2] at kr
  rw [h3] at ki
  have q1 : IntKind.i64.wrap (16 * rate) = 16 * rate := by rw [IntKind.wrap_i64]; omega
  have q2 : IntKind.i64.wrap (16 * rate + id) = 16 * rate + id := by rw [IntKind.wrap_i64]; omega
  have kt := fun (N : Int) V g (hI : Ints V (some ⟨g, 0, none⟩) [N, burst, 16 * rate + id]) (hN : 0 ≤ N ∧ N ≤ 255) => text_any (some ⟨g, 0, none⟩) 3 3 [N, burst, 16 * rate + id] V rfl (by simp) hI (by simp [inB, in1]; omega)
  have hadd : ∀ (N : Int) (U : World), (Op.stringOp .add (strOfNums [N, burst, 16 * rate + id]) more).run Try.prog U = .ok (.string (strOfNums [N, burst, 16 * rate + id] ++ more)) U := fun N U => run_string_add_sum U _ _ (by rw [strOfNums_size]; simp only [List.length_cons, List.length_nil]; omega)
  have HBD : ∀ N, Sl.b0 ⟨sl, fec, rows, burst, rate, id, more⟩ = N → Sl.body ⟨sl, fec, rows, burst, rate, id, more⟩ = strOfNums [N, burst, 16 * rate + id] ++ more := fun N hN => by
    unfold Sl.body
    rw [hN]
    show strOfNums [N, burst, rate * 16 + id] ++ more = _
    rw [Int.mul_comm rate 16]
  have HBD := Lib.hid HBD
  unfold Sl.vals at hx ⊢
  have f3 := Blk.cell hx.b 3 (v := .int .i64 burst) rfl
  have f4 := Blk.cell hx.b 4 (v := .int .i64 rate) rfl
  have f5 := Blk.cell hx.b 5 (v := .int .i64 id) rfl
  have f6 := Blk.cell hx.b 6 (v := .string more) rfl
  have HX := Lib.hid hx
  have HB2 := Lib.hid b2
  have HB3 := Lib.hid b3
  have HB1 := Lib.hid b1
  clear h1 h2 h3 h4 b1 b2 b3 hB0 hx
  cases sl <;> cases fec <;> rcases h with rfl | rfl | rfl | rfl
  · go_enter Try.func13, Try.ntmps13
    go_wp2_with fail
    (with_reducible refine (kb _).mono ?_); rintro e W1 ⟨rfl, rfl⟩
    go_wp2_with fail
    (with_reducible refine (kr _).mono ?_); rintro e W1 ⟨rfl, rfl⟩
    go_wp2_with fail
    (with_reducible refine (ki _).mono ?_); rintro e W1 ⟨rfl, rfl⟩
    go_wp2_with fail
    have k0 := cur_of (Blk.cell HX.out.d 0 (v := .int .i64 0) rfl)
    have k1 := cur_of (Blk.cell HX.out.d 1 (v := .string nob) rfl)
    have z0 := Blk.frozen HX.out.d 0
    have z1 := Blk.frozen HX.out.d 1
    go_region_held3 (fun w' => w'.cell? ⟨w.heap.size, 3, none⟩ = some (.int .i64 burst) ∧ w'.cell? ⟨w.heap.size, 4, none⟩ = some (.int .i64 rate) ∧ w'.cell? ⟨w.heap.size, 5, none⟩ = some (.int .i64 id) ∧ w'.cell? ⟨w.heap.size, 6, none⟩ = some (.string more) ∧ w'.cell? ⟨w.heap.size + 1, 0, none⟩ = some (cur w' ⟨w.heap.size + 1, 0, none⟩) ∧ w'.cell? ⟨w.heap.size + 1, 1, none⟩ = some (cur w' ⟨w.heap.size + 1, 1, none⟩) ∧ w'.frozen? ⟨w.heap.size + 1, 0, none⟩ = false ∧ w'.frozen? ⟨w.heap.size + 1, 1, none⟩ = false)
      (first | exact ⟨f3, f4, f5, f6, k0, k1, z0, z1⟩ | exact keepR (keepA HX.out) | exact keepR (keepC HX.out hbt) | (go_split_ands; exact keepS (by assumption) (by assumption) (by assumption) (by assumption) (by assumption) (by assumption) (by assumption) (by assumption)))
      (first | (go_at_call 42; refine Calls.mono (kt _ _ _ (ints_blk (Blk.drew (Blk.newAt _ _ _ ?_)) rfl) ?_) ?_; simp; decide; rintro e w' ⟨rfl, hbt⟩))
    have hR := keepC HX.out hbt
    have hend : Below w.heap.size w ((w'.setCell ⟨w.heap.size + 1, 0, none⟩ (.int .i64 119)).setCell ⟨w.heap.size + 1, 1, none⟩ (.string (strOfNums [24, burst, 16 * rate + id] ++ more))) := (hR.be.setCell (p := ⟨w.heap.size + 1, 0, none⟩) (by show w.heap.size ≤ w.heap.size + 1; omega) _).setCell (p := ⟨w.heap.size + 1, 1, none⟩) (by show w.heap.size ≤ w.heap.size + 1; omega) _
    have y0 := Blk.cell ((hR.d.set_ 0 (.int .i64 119)).set_ 1 (.string (strOfNums [24, burst, 16 * rate + id] ++ more))) 0 (v := .int .i64 119) rfl
    have y1 := Blk.cell ((hR.d.set_ 0 (.int .i64 119)).set_ 1 (.string (strOfNums [24, burst, 16 * rate + id] ++ more))) 1 (v := .string (strOfNums [24, burst, 16 * rate + id] ++ more)) rfl
    have HE := Lib.hid hend
    clear hend hR hbt f3 f4 f5 f6 k0 k1 z0 z1 kb kr ki kt hadd q1 q2 t9
    go_wp2_with fail
    exact bodyPost_ret (v := .tuple #[.agg #[.int .i64 119, .string (strOfNums [24, burst, 16 * rate + id] ++ more)], .int .i64 0]) (by simp [results, Try.results13, go_sem, y0, y1]) rfl ⟨by rw [HBD.out 24 (by simp [Sl.b0])], HE.out⟩
  · go_enter Try.func13, Try.ntmps13
    go_wp2_with fail
    (with_reducible refine (kb _).mono ?_); rintro e W1 ⟨rfl, rfl⟩
    go_wp2_with fail
    (with_reducible refine (kr _).mono ?_); rintro e W1 ⟨rfl, rfl⟩
    go_wp2_with fail
    (with_reducible refine (ki _).mono ?_); rintro e W1 ⟨rfl, rfl⟩
    go_wp2_with fail
    have k0 := cur_of (Blk.cell HX.out.d 0 (v := .int .i64 0) rfl)
    have k1 := cur_of (Blk.cell HX.out.d 1 (v := .string nob) rfl)
    have z0 := Blk.frozen HX.out.d 0
    have z1 := Blk.frozen HX.out.d 1
    go_region_held3 (fun w' => w'.cell? ⟨w.heap.size, 3, none⟩ = some (.int .i64 burst) ∧ w'.cell? ⟨w.heap.size, 4, none⟩ = some (.int .i64 rate) ∧ w'.cell? ⟨w.heap.size, 5, none⟩ = some (.int .i64 id) ∧ w'.cell? ⟨w.heap.size, 6, none⟩ = some (.string more) ∧ w'.cell? ⟨w.heap.size + 1, 0, none⟩ = some (cur w' ⟨w.heap.size + 1, 0, none⟩) ∧ w'.cell? ⟨w.heap.size + 1, 1, none⟩ = some (cur w' ⟨w.heap.size + 1, 1, none⟩) ∧ w'.frozen? ⟨w.heap.size + 1, 0, none⟩ = false ∧ w'.frozen? ⟨w.heap.size + 1, 1, none⟩ = false)
      (first | exact ⟨f3, f4, f5, f6, k0, k1, z0, z1⟩ | exact keepR (keepA HX.out) | exact keepR (keepC HX.out hbt) | (go_split_ands; exact keepS (by assumption) (by assumption) (by assumption) (by assumption) (by assumption) (by assumption) (by assumption) (by assumption)))
      (first | (go_at_call 42; refine Calls.mono (kt _ _ _ (ints_blk (Blk.drew (Blk.newAt _ _ _ ?_)) rfl) ?_) ?_; simp; decide; rintro e w' ⟨rfl, hbt⟩))
    have hR := keepC HX.out hbt
    have hend : Below w.heap.size w ((w'.setCell ⟨w.heap.size + 1, 0, none⟩ (.int .i64 119)).setCell ⟨w.heap.size + 1, 1, none⟩ (.string (strOfNums [25, burst, 16 * rate + id] ++ more))) := (hR.be.setCell (p := ⟨w.heap.size + 1, 0, none⟩) (by show w.heap.size ≤ w.heap.size + 1; omega) _).setCell (p := ⟨w.heap.size + 1, 1, none⟩) (by show w.heap.size ≤ w.heap.size + 1; omega) _
    have y0 := Blk.cell ((hR.d.set_ 0 (.int .i64 119)).set_ 1 (.string (strOfNums [25, burst, 16 * rate + id] ++ more))) 0 (v := .int .i64 119) rfl
    have y1 := Blk.cell ((hR.d.set_ 0 (.int .i64 119)).set_ 1 (.string (strOfNums [25, burst, 16 * rate + id] ++ more))) 1 (v := .string (strOfNums [25, burst, 16 * rate + id] ++ more)) rfl
    have HE := Lib.hid hend
    clear hend hR hbt f3 f4 f5 f6 k0 k1 z0 z1 kb kr ki kt hadd q1 q2 t9
    go_wp2_with fail
    exact bodyPost_ret (v := .tuple #[.agg #[.int .i64 119, .string (strOfNums [25, burst, 16 * rate + id] ++ more)], .int .i64 0]) (by simp [results, Try.results13, go_sem, y0, y1]) rfl ⟨by rw [HBD.out 25 (by simp [Sl.b0])], HE.out⟩
  · go_enter Try.func13, Try.ntmps13
    go_wp2_with fail
    (with_reducible refine (kb _).mono ?_); rintro e W1 ⟨rfl, rfl⟩
    go_wp2_with fail
    (with_reducible refine (kr _).mono ?_); rintro e W1 ⟨rfl, rfl⟩
    go_wp2_with fail
    (with_reducible refine (ki _).mono ?_); rintro e W1 ⟨rfl, rfl⟩
    go_wp2_with fail
    have k0 := cur_of (Blk.cell HX.out.d 0 (v := .int .i64 0) rfl)
    have k1 := cur_of (Blk.cell HX.out.d 1 (v := .string nob) rfl)
    have z0 := Blk.frozen HX.out.d 0
    have z1 := Blk.frozen HX.out.d 1
    go_region_held3 (fun w' => w'.cell? ⟨w.heap.size, 3, none⟩ = some (.int .i64 burst) ∧ w'.cell? ⟨w.heap.size, 4, none⟩ = some (.int .i64 rate) ∧ w'.cell? ⟨w.heap.size, 5, none⟩ = some (.int .i64 id) ∧ w'.cell? ⟨w.heap.size, 6, none⟩ = some (.string more) ∧ w'.cell? ⟨w.heap.size + 1, 0, none⟩ = some (cur w' ⟨w.heap.size + 1, 0, none⟩) ∧ w'.cell? ⟨w.heap.size + 1, 1, none⟩ = some (cur w' ⟨w.heap.size + 1, 1, none⟩) ∧ w'.frozen? ⟨w.heap.size + 1, 0, none⟩ = false ∧ w'.frozen? ⟨w.heap.size + 1, 1, none⟩ = false)
      (first | exact ⟨f3, f4, f5, f6, k0, k1, z0, z1⟩ | exact keepR (keepA HX.out) | exact keepR (keepC HX.out hbt) | (go_split_ands; exact keepS (by assumption) (by assumption) (by assumption) (by assumption) (by assumption) (by assumption) (by assumption) (by assumption)))
      (first | (go_at_call 42; refine Calls.mono (kt _ _ _ (ints_blk (Blk.drew (Blk.newAt _ _ _ ?_)) rfl) ?_) ?_; simp; decide; rintro e w' ⟨rfl, hbt⟩))
    have hR := keepC HX.out hbt
    have hend : Below w.heap.size w ((w'.setCell ⟨w.heap.size + 1, 0, none⟩ (.int .i64 119)).setCell ⟨w.heap.size + 1, 1, none⟩ (.string (strOfNums [26, burst, 16 * rate + id] ++ more))) := (hR.be.setCell (p := ⟨w.heap.size + 1, 0, none⟩) (by show w.heap.size ≤ w.heap.size + 1; omega) _).setCell (p := ⟨w.heap.size + 1, 1, none⟩) (by show w.heap.size ≤ w.heap.size + 1; omega) _
    have y0 := Blk.cell ((hR.d.set_ 0 (.int .i64 119)).set_ 1 (.string (strOfNums [26, burst, 16 * rate + id] ++ more))) 0 (v := .int .i64 119) rfl
    have y1 := Blk.cell ((hR.d.set_ 0 (.int .i64 119)).set_ 1 (.string (strOfNums [26, burst, 16 * rate + id] ++ more))) 1 (v := .string (strOfNums [26, burst, 16 * rate + id] ++ more)) rfl
    have HE := Lib.hid hend
    clear hend hR hbt f3 f4 f5 f6 k0 k1 z0 z1 kb kr ki kt hadd q1 q2 t9
    go_wp2_with fail
    exact bodyPost_ret (v := .tuple #[.agg #[.int .i64 119, .string (strOfNums [26, burst, 16 * rate + id] ++ more)], .int .i64 0]) (by simp [results, Try.results13, go_sem, y0, y1]) rfl ⟨by rw [HBD.out 26 (by simp [Sl.b0])], HE.out⟩
  · go_enter Try.func13, Try.ntmps13
    go_wp2_with fail
    (with_reducible refine (kb _).mono ?_); rintro e W1 ⟨rfl, rfl⟩
    go_wp2_with fail
    (with_reducible refine (kr _).mono ?_); rintro e W1 ⟨rfl, rfl⟩
    go_wp2_with fail
    (with_reducible refine (ki _).mono ?_); rintro e W1 ⟨rfl, rfl⟩
    go_wp2_with fail
    have k0 := cur_of (Blk.cell HX.out.d 0 (v := .int .i64 0) rfl)
    have k1 := cur_of (Blk.cell HX.out.d 1 (v := .string nob) rfl)
    have z0 := Blk.frozen HX.out.d 0
    have z1 := Blk.frozen HX.out.d 1
    go_region_held3 (fun w' => w'.cell? ⟨w.heap.size, 3, none⟩ = some (.int .i64 burst) ∧ w'.cell? ⟨w.heap.size, 4, none⟩ = some (.int .i64 rate) ∧ w'.cell? ⟨w.heap.size, 5, none⟩ = some (.int .i64 id) ∧ w'.cell? ⟨w.heap.size, 6, none⟩ = some (.string more) ∧ w'.cell? ⟨w.heap.size + 1, 0, none⟩ = some (cur w' ⟨w.heap.size + 1, 0, none⟩) ∧ w'.cell? ⟨w.heap.size + 1, 1, none⟩ = some (cur w' ⟨w.heap.size + 1, 1, none⟩) ∧ w'.frozen? ⟨w.heap.size + 1, 0, none⟩ = false ∧ w'.frozen? ⟨w.heap.size + 1, 1, none⟩ = false)
      (first | exact ⟨f3, f4, f5, f6, k0, k1, z0, z1⟩ | exact keepR (keepA HX.out) | exact keepR (keepC HX.out hbt) | (go_split_ands; exact keepS (by assumption) (by assumption) (by assumption) (by assumption) (by assumption) (by assumption) (by assumption) (by assumption)))
      (first | (go_at_call 42; refine Calls.mono (kt _ _ _ (ints_blk (Blk.drew (Blk.newAt _ _ _ ?_)) rfl) ?_) ?_; simp; decide; rintro e w' ⟨rfl, hbt⟩))
    have hR := keepC HX.out hbt
    have hend : Below w.heap.size w ((w'.setCell ⟨w.heap.size + 1, 0, none⟩ (.int .i64 119)).setCell ⟨w.heap.size + 1, 1, none⟩ (.string (strOfNums [27, burst, 16 * rate + id] ++ more))) := (hR.be.setCell (p := ⟨w.heap.size + 1, 0, none⟩) (by show w.heap.size ≤ w.heap.size + 1; omega) _).setCell (p := ⟨w.heap.size + 1, 1, none⟩) (by show w.heap.size ≤ w.heap.size + 1; omega) _
    have y0 := Blk.cell ((hR.d.set_ 0 (.int .i64 119)).set_ 1 (.string (strOfNums [27, burst, 16 * rate + id] ++ more))) 0 (v := .int .i64 119) rfl
    have y1 := Blk.cell ((hR.d.set_ 0 (.int .i64 119)).set_ 1 (.string (strOfNums [27, burst, 16 * rate + id] ++ more))) 1 (v := .string (strOfNums [27, burst, 16 * rate + id] ++ more)) rfl
    have HE := Lib.hid hend
    clear hend hR hbt f3 f4 f5 f6 k0 k1 z0 z1 kb kr ki kt hadd q1 q2 t9
    go_wp2_with fail
    exact bodyPost_ret (v := .tuple #[.agg #[.int .i64 119, .string (strOfNums [27, burst, 16 * rate + id] ++ more)], .int .i64 0]) (by simp [results, Try.results13, go_sem, y0, y1]) rfl ⟨by rw [HBD.out 27 (by simp [Sl.b0])], HE.out⟩
  · go_enter Try.func13, Try.ntmps13
    go_wp2_with fail
    (with_reducible refine (kb _).mono ?_); rintro e W1 ⟨rfl, rfl⟩
    go_wp2_with fail
    (with_reducible refine (kr _).mono ?_); rintro e W1 ⟨rfl, rfl⟩
    go_wp2_with fail
    (with_reducible refine (ki _).mono ?_); rintro e W1 ⟨rfl, rfl⟩
    go_wp2_with fail
    have k0 := cur_of (Blk.cell HX.out.d 0 (v := .int .i64 0) rfl)
    have k1 := cur_of (Blk.cell HX.out.d 1 (v := .string nob) rfl)
    have z0 := Blk.frozen HX.out.d 0
    have z1 := Blk.frozen HX.out.d 1
    go_region_held3 (fun w' => w'.cell? ⟨w.heap.size, 3, none⟩ = some (.int .i64 burst) ∧ w'.cell? ⟨w.heap.size, 4, none⟩ = some (.int .i64 rate) ∧ w'.cell? ⟨w.heap.size, 5, none⟩ = some (.int .i64 id) ∧ w'.cell? ⟨w.heap.size, 6, none⟩ = some (.string more) ∧ w'.cell? ⟨w.heap.size + 1, 0, none⟩ = some (cur w' ⟨w.heap.size + 1, 0, none⟩) ∧ w'.cell? ⟨w.heap.size + 1, 1, none⟩ = some (cur w' ⟨w.heap.size + 1, 1, none⟩) ∧ w'.frozen? ⟨w.heap.size + 1, 0, none⟩ = false ∧ w'.frozen? ⟨w.heap.size + 1, 1, none⟩ = false)
      (first | exact ⟨f3, f4, f5, f6, k0, k1, z0, z1⟩ | exact keepR (keepA HX.out) | exact keepR (keepC HX.out hbt) | (go_split_ands; exact keepS (by assumption) (by assumption) (by assumption) (by assumption) (by assumption) (by assumption) (by assumption) (by assumption)))
      (first | (go_at_call 42; refine Calls.mono (kt _ _ _ (ints_blk (Blk.drew (Blk.newAt _ _ _ ?_)) rfl) ?_) ?_; simp; decide; rintro e w' ⟨rfl, hbt⟩))
    have hR := keepC HX.out hbt
    have hend : Below w.heap.size w ((w'.setCell ⟨w.heap.size + 1, 0, none⟩ (.int .i64 119)).setCell ⟨w.heap.size + 1, 1, none⟩ (.string (strOfNums [56, burst, 16 * rate + id] ++ more))) := (hR.be.setCell (p := ⟨w.heap.size + 1, 0, none⟩) (by show w.heap.size ≤ w.heap.size + 1; omega) _).setCell (p := ⟨w.heap.size + 1, 1, none⟩) (by show w.heap.size ≤ w.heap.size + 1; omega) _
    have y0 := Blk.cell ((hR.d.set_ 0 (.int .i64 119)).set_ 1 (.string (strOfNums [56, burst, 16 * rate + id] ++ more))) 0 (v := .int .i64 119) rfl
    have y1 := Blk.cell ((hR.d.set_ 0 (.int .i64 119)).set_ 1 (.string (strOfNums [56, burst, 16 * rate + id] ++ more))) 1 (v := .string (strOfNums [56, burst, 16 * rate + id] ++ more)) rfl
    have HE := Lib.hid hend
    clear hend hR hbt f3 f4 f5 f6 k0 k1 z0 z1 kb kr ki kt hadd q1 q2 t9
    go_wp2_with fail
    exact bodyPost_ret (v := .tuple #[.agg #[.int .i64 119, .string (strOfNums [56, burst, 16 * rate + id] ++ more)], .int .i64 0]) (by simp [results, Try.results13, go_sem, y0, y1]) rfl ⟨by rw [HBD.out 56 (by simp [Sl.b0])], HE.out⟩
  · go_enter Try.func13, Try.ntmps13
    go_wp2_with fail
    (with_reducible refine (kb _).mono ?_); rintro e W1 ⟨rfl, rfl⟩
    go_wp2_with fail
    (with_reducible refine (kr _).mono ?_); rintro e W1 ⟨rfl, rfl⟩
    go_wp2_with fail
    (with_reducible refine (ki _).mono ?_); rintro e W1 ⟨rfl, rfl⟩
    go_wp2_with fail
    have k0 := cur_of (Blk.cell HX.out.d 0 (v := .int .i64 0) rfl)
    have k1 := cur_of (Blk.cell HX.out.d 1 (v := .string nob) rfl)
    have z0 := Blk.frozen HX.out.d 0
    have z1 := Blk.frozen HX.out.d 1
    go_region_held3 (fun w' => w'.cell? ⟨w.heap.size, 3, none⟩ = some (.int .i64 burst) ∧ w'.cell? ⟨w.heap.size, 4, none⟩ = some (.int .i64 rate) ∧ w'.cell? ⟨w.heap.size, 5, none⟩ = some (.int .i64 id) ∧ w'.cell? ⟨w.heap.size, 6, none⟩ = some (.string more) ∧ w'.cell? ⟨w.heap.size + 1, 0, none⟩ = some (cur w' ⟨w.heap.size + 1, 0, none⟩) ∧ w'.cell? ⟨w.heap.size + 1, 1, none⟩ = some (cur w' ⟨w.heap.size + 1, 1, none⟩) ∧ w'.frozen? ⟨w.heap.size + 1, 0, none⟩ = false ∧ w'.frozen? ⟨w.heap.size + 1, 1, none⟩ = false)
      (first | exact ⟨f3, f4, f5, f6, k0, k1, z0, z1⟩ | exact keepR (keepA HX.out) | exact keepR (keepC HX.out hbt) | (go_split_ands; exact keepS (by assumption) (by assumption) (by assumption) (by assumption) (by assumption) (by assumption) (by assumption) (by assumption)))
      (first | (go_at_call 42; refine Calls.mono (kt _ _ _ (ints_blk (Blk.drew (Blk.newAt _ _ _ ?_)) rfl) ?_) ?_; simp; decide; rintro e w' ⟨rfl, hbt⟩))
    have hR := keepC HX.out hbt
    have hend : Below w.heap.size w ((w'.setCell ⟨w.heap.size + 1, 0, none⟩ (.int .i64 119)).setCell ⟨w.heap.size + 1, 1, none⟩ (.string (strOfNums [57, burst, 16 * rate + id] ++ more))) := (hR.be.setCell (p := ⟨w.heap.size + 1, 0, none⟩) (by show w.heap.size ≤ w.heap.size + 1; omega) _).setCell (p := ⟨w.heap.size + 1, 1, none⟩) (by show w.heap.size ≤ w.heap.size + 1; omega) _
    have y0 := Blk.cell ((hR.d.set_ 0 (.int .i64 119)).set_ 1 (.string (strOfNums [57, burst, 16 * rate + id] ++ more))) 0 (v := .int .i64 119) rfl
    have y1 := Blk.cell ((hR.d.set_ 0 (.int .i64 119)).set_ 1 (.string (strOfNums [57, burst, 16 * rate + id] ++ more))) 1 (v := .string (strOfNums [57, burst, 16 * rate + id] ++ more)) rfl
    have HE := Lib.hid hend
    clear hend hR hbt f3 f4 f5 f6 k0 k1 z0 z1 kb kr ki kt hadd q1 q2 t9
    go_wp2_with fail
    exact bodyPost_ret (v := .tuple #[.agg #[.int .i64 119, .string (strOfNums [57, burst, 16 * rate + id] ++ more)], .int .i64 0]) (by simp [results, Try.results13, go_sem, y0, y1]) rfl ⟨by rw [HBD.out 57 (by simp [Sl.b0])], HE.out⟩
  · go_enter Try.func13, Try.ntmps13
    go_wp2_with fail
    (with_reducible refine (kb _).mono ?_); rintro e W1 ⟨rfl, rfl⟩
    go_wp2_with fail
    (with_reducible refine (kr _).mono ?_); rintro e W1 ⟨rfl, rfl⟩
    go_wp2_with fail
    (with_reducible refine (ki _).mono ?_); rintro e W1 ⟨rfl, rfl⟩
    go_wp2_with fail
    have k0 := cur_of (Blk.cell HX.out.d 0 (v := .int .i64 0) rfl)
    have k1 := cur_of (Blk.cell HX.out.d 1 (v := .string nob) rfl)
    have z0 := Blk.frozen HX.out.d 0
    have z1 := Blk.frozen HX.out.d 1
    go_region_held3 (fun w' => w'.cell? ⟨w.heap.size, 3, none⟩ = some (.int .i64 burst) ∧ w'.cell? ⟨w.heap.size, 4, none⟩ = some (.int .i64 rate) ∧ w'.cell? ⟨w.heap.size, 5, none⟩ = some (.int .i64 id) ∧ w'.cell? ⟨w.heap.size, 6, none⟩ = some (.string more) ∧ w'.cell? ⟨w.heap.size + 1, 0, none⟩ = some (cur w' ⟨w.heap.size + 1, 0, none⟩) ∧ w'.cell? ⟨w.heap.size + 1, 1, none⟩ = some (cur w' ⟨w.heap.size + 1, 1, none⟩) ∧ w'.frozen? ⟨w.heap.size + 1, 0, none⟩ = false ∧ w'.frozen? ⟨w.heap.size + 1, 1, none⟩ = false)
      (first | exact ⟨f3, f4, f5, f6, k0, k1, z0, z1⟩ | exact keepR (keepA HX.out) | exact keepR (keepC HX.out hbt) | (go_split_ands; exact keepS (by assumption) (by assumption) (by assumption) (by assumption) (by assumption) (by assumption) (by assumption) (by assumption)))
      (first | (go_at_call 42; refine Calls.mono (kt _ _ _ (ints_blk (Blk.drew (Blk.newAt _ _ _ ?_)) rfl) ?_) ?_; simp; decide; rintro e w' ⟨rfl, hbt⟩))
    have hR := keepC HX.out hbt
    have hend : Below w.heap.size w ((w'.setCell ⟨w.heap.size + 1, 0, none⟩ (.int .i64 119)).setCell ⟨w.heap.size + 1, 1, none⟩ (.string (strOfNums [58, burst, 16 * rate + id] ++ more))) := (hR.be.setCell (p := ⟨w.heap.size + 1, 0, none⟩) (by show w.heap.size ≤ w.heap.size + 1; omega) _).setCell (p := ⟨w.heap.size + 1, 1, none⟩) (by show w.heap.size ≤ w.heap.size + 1; omega) _
    have y0 := Blk.cell ((hR.d.set_ 0 (.int .i64 119)).set_ 1 (.string (strOfNums [58, burst, 16 * rate + id] ++ more))) 0 (v := .int .i64 119) rfl
    have y1 := Blk.cell ((hR.d.set_ 0 (.int .i64 119)).set_ 1 (.string (strOfNums [58, burst, 16 * rate + id] ++ more))) 1 (v := .string (strOfNums [58, burst, 16 * rate + id] ++ more)) rfl
    have HE := Lib.hid hend
    clear hend hR hbt f3 f4 f5 f6 k0 k1 z0 z1 kb kr ki kt hadd q1 q2 t9
    go_wp2_with fail
    exact bodyPost_ret (v := .tuple #[.agg #[.int .i64 119, .string (strOfNums [58, burst, 16 * rate + id] ++ more)], .int .i64 0]) (by simp [results, Try.results13, go_sem, y0, y1]) rfl ⟨by rw [HBD.out 58 (by simp [Sl.b0])], HE.out⟩
  · go_enter Try.func13, Try.ntmps13
    go_wp2_with fail
    (with_reducible refine (kb _).mono ?_); rintro e W1 ⟨rfl, rfl⟩
    go_wp2_with fail
    (with_reducible refine (kr _).mono ?_); rintro e W1 ⟨rfl, rfl⟩
    go_wp2_with fail
    (with_reducible refine (ki _).mono ?_); rintro e W1 ⟨rfl, rfl⟩
    go_wp2_with fail
    have k0 := cur_of (Blk.cell HX.out.d 0 (v := .int .i64 0) rfl)
    have k1 := cur_of (Blk.cell HX.out.d 1 (v := .string nob) rfl)
    have z0 := Blk.frozen HX.out.d 0
    have z1 := Blk.frozen HX.out.d 1
    go_region_held3 (fun w' => w'.cell? ⟨w.heap.size, 3, none⟩ = some (.int .i64 burst) ∧ w'.cell? ⟨w.heap.size, 4, none⟩ = some (.int .i64 rate) ∧ w'.cell? ⟨w.heap.size, 5, none⟩ = some (.int .i64 id) ∧ w'.cell? ⟨w.heap.size, 6, none⟩ = some (.string more) ∧ w'.cell? ⟨w.heap.size + 1, 0, none⟩ = some (cur w' ⟨w.heap.size + 1, 0, none⟩) ∧ w'.cell? ⟨w.heap.size + 1, 1, none⟩ = some (cur w' ⟨w.heap.size + 1, 1, none⟩) ∧ w'.frozen? ⟨w.heap.size + 1, 0, none⟩ = false ∧ w'.frozen? ⟨w.heap.size + 1, 1, none⟩ = false)
      (first | exact ⟨f3, f4, f5, f6, k0, k1, z0, z1⟩ | exact keepR (keepA HX.out) | exact keepR (keepC HX.out hbt) | (go_split_ands; exact keepS (by assumption) (by assumption) (by assumption) (by assumption) (by assumption) (by assumption) (by assumption) (by assumption)))
      (first | (go_at_call 42; refine Calls.mono (kt _ _ _ (ints_blk (Blk.drew (Blk.newAt _ _ _ ?_)) rfl) ?_) ?_; simp; decide; rintro e w' ⟨rfl, hbt⟩))
    have hR := keepC HX.out hbt
    have hend : Below w.heap.size w ((w'.setCell ⟨w.heap.size + 1, 0, none⟩ (.int .i64 119)).setCell ⟨w.heap.size + 1, 1, none⟩ (.string (strOfNums [59, burst, 16 * rate + id] ++ more))) := (hR.be.setCell (p := ⟨w.heap.size + 1, 0, none⟩) (by show w.heap.size ≤ w.heap.size + 1; omega) _).setCell (p := ⟨w.heap.size + 1, 1, none⟩) (by show w.heap.size ≤ w.heap.size + 1; omega) _
    have y0 := Blk.cell ((hR.d.set_ 0 (.int .i64 119)).set_ 1 (.string (strOfNums [59, burst, 16 * rate + id] ++ more))) 0 (v := .int .i64 119) rfl
    have y1 := Blk.cell ((hR.d.set_ 0 (.int .i64 119)).set_ 1 (.string (strOfNums [59, burst, 16 * rate + id] ++ more))) 1 (v := .string (strOfNums [59, burst, 16 * rate + id] ++ more)) rfl
    have HE := Lib.hid hend
    clear hend hR hbt f3 f4 f5 f6 k0 k1 z0 z1 kb kr ki kt hadd q1 q2 t9
    go_wp2_with fail
    exact bodyPost_ret (v := .tuple #[.agg #[.int .i64 119, .string (strOfNums [59, burst, 16 * rate + id] ++ more)], .int .i64 0]) (by simp [results, Try.results13, go_sem, y0, y1]) rfl ⟨by rw [HBD.out 59 (by simp [Sl.b0])], HE.out⟩
  · go_enter Try.func13, Try.ntmps13
    go_wp2_with fail
    (with_reducible refine (kb _).mono ?_); rintro e W1 ⟨rfl, rfl⟩
    go_wp2_with fail
    (with_reducible refine (kr _).mono ?_); rintro e W1 ⟨rfl, rfl⟩
    go_wp2_with fail
    (with_reducible refine (ki _).mono ?_); rintro e W1 ⟨rfl, rfl⟩
    go_wp2_with fail
    have k0 := cur_of (Blk.cell HX.out.d 0 (v := .int .i64 0) rfl)
    have k1 := cur_of (Blk.cell HX.out.d 1 (v := .string nob) rfl)
    have z0 := Blk.frozen HX.out.d 0
    have z1 := Blk.frozen HX.out.d 1
    go_region_held3 (fun w' => w'.cell? ⟨w.heap.size, 3, none⟩ = some (.int .i64 burst) ∧ w'.cell? ⟨w.heap.size, 4, none⟩ = some (.int .i64 rate) ∧ w'.cell? ⟨w.heap.size, 5, none⟩ = some (.int .i64 id) ∧ w'.cell? ⟨w.heap.size, 6, none⟩ = some (.string more) ∧ w'.cell? ⟨w.heap.size + 1, 0, none⟩ = some (cur w' ⟨w.heap.size + 1, 0, none⟩) ∧ w'.cell? ⟨w.heap.size + 1, 1, none⟩ = some (cur w' ⟨w.heap.size + 1, 1, none⟩) ∧ w'.frozen? ⟨w.heap.size + 1, 0, none⟩ = false ∧ w'.frozen? ⟨w.heap.size + 1, 1, none⟩ = false)
      (first | exact ⟨f3, f4, f5, f6, k0, k1, z0, z1⟩ | exact keepR (keepA HX.out) | exact keepR (keepC HX.out hbt) | (go_split_ands; exact keepS (by assumption) (by assumption) (by assumption) (by assumption) (by assumption) (by assumption) (by assumption) (by assumption)))
      (first | (go_at_call 42; refine Calls.mono (kt _ _ _ (ints_blk (Blk.drew (Blk.newAt _ _ _ ?_)) rfl) ?_) ?_; simp; decide; rintro e w' ⟨rfl, hbt⟩))
    have hR := keepC HX.out hbt
    have hend : Below w.heap.size w ((w'.setCell ⟨w.heap.size + 1, 0, none⟩ (.int .i64 119)).setCell ⟨w.heap.size + 1, 1, none⟩ (.string (strOfNums [152, burst, 16 * rate + id] ++ more))) := (hR.be.setCell (p := ⟨w.heap.size + 1, 0, none⟩) (by show w.heap.size ≤ w.heap.size + 1; omega) _).setCell (p := ⟨w.heap.size + 1, 1, none⟩) (by show w.heap.size ≤ w.heap.size + 1; omega) _
    have y0 := Blk.cell ((hR.d.set_ 0 (.int .i64 119)).set_ 1 (.string (strOfNums [152, burst, 16 * rate + id] ++ more))) 0 (v := .int .i64 119) rfl
    have y1 := Blk.cell ((hR.d.set_ 0 (.int .i64 119)).set_ 1 (.string (strOfNums [152, burst, 16 * rate + id] ++ more))) 1 (v := .string (strOfNums [152, burst, 16 * rate + id] ++ more)) rfl
    have HE := Lib.hid hend
    clear hend hR hbt f3 f4 f5 f6 k0 k1 z0 z1 kb kr ki kt hadd q1 q2 t9
    go_wp2_with fail
    exact bodyPost_ret (v := .tuple #[.agg #[.int .i64 119, .string (strOfNums [152, burst, 16 * rate + id] ++ more)], .int .i64 0]) (by simp [results, Try.results13, go_sem, y0, y1]) rfl ⟨by rw [HBD.out 152 (by simp [Sl.b0])], HE.out⟩
  · go_enter Try.func13, Try.ntmps13
    go_wp2_with fail
    (with_reducible refine (kb _).mono ?_); rintro e W1 ⟨rfl, rfl⟩
    go_wp2_with fail
    (with_reducible refine (kr _).mono ?_); rintro e W1 ⟨rfl, rfl⟩
    go_wp2_with fail
    (with_reducible refine (ki _).mono ?_); rintro e W1 ⟨rfl, rfl⟩
    go_wp2_with fail
    have k0 := cur_of (Blk.cell HX.out.d 0 (v := .int .i64 0) rfl)
    have k1 := cur_of (Blk.cell HX.out.d 1 (v := .string nob) rfl)
    have z0 := Blk.frozen HX.out.d 0
    have z1 := Blk.frozen HX.out.d 1
    go_region_held3 (fun w' => w'.cell? ⟨w.heap.size, 3, none⟩ = some (.int .i64 burst) ∧ w'.cell? ⟨w.heap.size, 4, none⟩ = some (.int .i64 rate) ∧ w'.cell? ⟨w.heap.size, 5, none⟩ = some (.int .i64 id) ∧ w'.cell? ⟨w.heap.size, 6, none⟩ = some (.string more) ∧ w'.cell? ⟨w.heap.size + 1, 0, none⟩ = some (cur w' ⟨w.heap.size + 1, 0, none⟩) ∧ w'.cell? ⟨w.heap.size + 1, 1, none⟩ = some (cur w' ⟨w.heap.size + 1, 1, none⟩) ∧ w'.frozen? ⟨w.heap.size + 1, 0, none⟩ = false ∧ w'.frozen? ⟨w.heap.size + 1, 1, none⟩ = false)
      (first | exact ⟨f3, f4, f5, f6, k0, k1, z0, z1⟩ | exact keepR (keepA HX.out) | exact keepR (keepC HX.out hbt) | (go_split_ands; exact keepS (by assumption) (by assumption) (by assumption) (by assumption) (by assumption) (by assumption) (by assumption) (by assumption)))
      (first | (go_at_call 42; refine Calls.mono (kt _ _ _ (ints_blk (Blk.drew (Blk.newAt _ _ _ ?_)) rfl) ?_) ?_; simp; decide; rintro e w' ⟨rfl, hbt⟩))
    have hR := keepC HX.out hbt
    have hend : Below w.heap.size w ((w'.setCell ⟨w.heap.size + 1, 0, none⟩ (.int .i64 119)).setCell ⟨w.heap.size + 1, 1, none⟩ (.string (strOfNums [153, burst, 16 * rate + id] ++ more))) := (hR.be.setCell (p := ⟨w.heap.size + 1, 0, none⟩) (by show w.heap.size ≤ w.heap.size + 1; omega) _).setCell (p := ⟨w.heap.size + 1, 1, none⟩) (by show w.heap.size ≤ w.heap.size + 1; omega) _
    have y0 := Blk.cell ((hR.d.set_ 0 (.int .i64 119)).set_ 1 (.string (strOfNums [153, burst, 16 * rate + id] ++ more))) 0 (v := .int .i64 119) rfl
    have y1 := Blk.cell ((hR.d.set_ 0 (.int .i64 119)).set_ 1 (.string (strOfNums [153, burst, 16 * rate + id] ++ more))) 1 (v := .string (strOfNums [153, burst, 16 * rate + id] ++ more)) rfl
    have HE := Lib.hid hend
    clear hend hR hbt f3 f4 f5 f6 k0 k1 z0 z1 kb kr ki kt hadd q1 q2 t9
    go_wp2_with fail
    exact bodyPost_ret (v := .tuple #[.agg #[.int .i64 119, .string (strOfNums [153, burst, 16 * rate + id] ++ more)], .int .i64 0]) (by simp [results, Try.results13, go_sem, y0, y1]) rfl ⟨by rw [HBD.out 153 (by simp [Sl.b0])], HE.out⟩
  · go_enter Try.func13, Try.ntmps13
    go_wp2_with fail
    (with_reducible refine (kb _).mono ?_); rintro e W1 ⟨rfl, rfl⟩
    go_wp2_with fail
    (with_reducible refine (kr _).mono ?_); rintro e W1 ⟨rfl, rfl⟩
    go_wp2_with fail
    (with_reducible refine (ki _).mono ?_); rintro e W1 ⟨rfl, rfl⟩
    go_wp2_with fail
    have k0 := cur_of (Blk.cell HX.out.d 0 (v := .int .i64 0) rfl)
    have k1 := cur_of (Blk.cell HX.out.d 1 (v := .string nob) rfl)
    have z0 := Blk.frozen HX.out.d 0
    have z1 := Blk.frozen HX.out.d 1
    go_region_held3 (fun w' => w'.cell? ⟨w.heap.size, 3, none⟩ = some (.int .i64 burst) ∧ w'.cell? ⟨w.heap.size, 4, none⟩ = some (.int .i64 rate) ∧ w'.cell? ⟨w.heap.size, 5, none⟩ = some (.int .i64 id) ∧ w'.cell? ⟨w.heap.size, 6, none⟩ = some (.string more) ∧ w'.cell? ⟨w.heap.size + 1, 0, none⟩ = some (cur w' ⟨w.heap.size + 1, 0, none⟩) ∧ w'.cell? ⟨w.heap.size + 1, 1, none⟩ = some (cur w' ⟨w.heap.size + 1, 1, none⟩) ∧ w'.frozen? ⟨w.heap.size + 1, 0, none⟩ = false ∧ w'.frozen? ⟨w.heap.size + 1, 1, none⟩ = false)
      (first | exact ⟨f3, f4, f5, f6, k0, k1, z0, z1⟩ | exact keepR (keepA HX.out) | exact keepR (keepC HX.out hbt) | (go_split_ands; exact keepS (by assumption) (by assumption) (by assumption) (by assumption) (by assumption) (by assumption) (by assumption) (by assumption)))
      (first | (go_at_call 42; refine Calls.mono (kt _ _ _ (ints_blk (Blk.drew (Blk.newAt _ _ _ ?_)) rfl) ?_) ?_; simp; decide; rintro e w' ⟨rfl, hbt⟩))
    have hR := keepC HX.out hbt
    have hend : Below w.heap.size w ((w'.setCell ⟨w.heap.size + 1, 0, none⟩ (.int .i64 119)).setCell ⟨w.heap.size + 1, 1, none⟩ (.string (strOfNums [154, burst, 16 * rate + id] ++ more))) := (hR.be.setCell (p := ⟨w.heap.size + 1, 0, none⟩) (by show w.heap.size ≤ w.heap.size + 1; omega) _).setCell (p := ⟨w.heap.size + 1, 1, none⟩) (by show w.heap.size ≤ w.heap.size + 1; omega) _
    have y0 := Blk.cell ((hR.d.set_ 0 (.int .i64 119)).set_ 1 (.string (strOfNums [154, burst, 16 * rate + id] ++ more))) 0 (v := .int .i64 119) rfl
    have y1 := Blk.cell ((hR.d.set_ 0 (.int .i64 119)).set_ 1 (.string (strOfNums [154, burst, 16 * rate + id] ++ more))) 1 (v := .string (strOfNums [154, burst, 16 * rate + id] ++ more)) rfl
    have HE := Lib.hid hend
    clear hend hR hbt f3 f4 f5 f6 k0 k1 z0 z1 kb kr ki kt hadd q1 q2 t9
    go_wp2_with fail
    exact bodyPost_ret (v := .tuple #[.agg #[.int .i64 119, .string (strOfNums [154, burst, 16 * rate + id] ++ more)], .int .i64 0]) (by simp [results, Try.results13, go_sem, y0, y1]) rfl ⟨by rw [HBD.out 154 (by simp [Sl.b0])], HE.out⟩
  · go_enter Try.func13, Try.ntmps13
    go_wp2_with fail
    (with_reducible refine (kb _).mono ?_); rintro e W1 ⟨rfl, rfl⟩
    go_wp2_with fail
    (with_reducible refine (kr _).mono ?_); rintro e W1 ⟨rfl, rfl⟩
    go_wp2_with fail
    (with_reducible refine (ki _).mono ?_); rintro e W1 ⟨rfl, rfl⟩
    go_wp2_with fail
    have k0 := cur_of (Blk.cell HX.out.d 0 (v := .int .i64 0) rfl)
    have k1 := cur_of (Blk.cell HX.out.d 1 (v := .string nob) rfl)
    have z0 := Blk.frozen HX.out.d 0
    have z1 := Blk.frozen HX.out.d 1
    go_region_held3 (fun w' => w'.cell? ⟨w.heap.size, 3, none⟩ = some (.int .i64 burst) ∧ w'.cell? ⟨w.heap.size, 4, none⟩ = some (.int .i64 rate) ∧ w'.cell? ⟨w.heap.size, 5, none⟩ = some (.int .i64 id) ∧ w'.cell? ⟨w.heap.size, 6, none⟩ = some (.string more) ∧ w'.cell? ⟨w.heap.size + 1, 0, none⟩ = some (cur w' ⟨w.heap.size + 1, 0, none⟩) ∧ w'.cell? ⟨w.heap.size + 1, 1, none⟩ = some (cur w' ⟨w.heap.size + 1, 1, none⟩) ∧ w'.frozen? ⟨w.heap.size + 1, 0, none⟩ = false ∧ w'.frozen? ⟨w.heap.size + 1, 1, none⟩ = false)
      (first | exact ⟨f3, f4, f5, f6, k0, k1, z0, z1⟩ | exact keepR (keepA HX.out) | exact keepR (keepC HX.out hbt) | (go_split_ands; exact keepS (by assumption) (by assumption) (by assumption) (by assumption) (by assumption) (by assumption) (by assumption) (by assumption)))
      (first | (go_at_call 42; refine Calls.mono (kt _ _ _ (ints_blk (Blk.drew (Blk.newAt _ _ _ ?_)) rfl) ?_) ?_; simp; decide; rintro e w' ⟨rfl, hbt⟩))
    have hR := keepC HX.out hbt
    have hend : Below w.heap.size w ((w'.setCell ⟨w.heap.size + 1, 0, none⟩ (.int .i64 119)).setCell ⟨w.heap.size + 1, 1, none⟩ (.string (strOfNums [155, burst, 16 * rate + id] ++ more))) := (hR.be.setCell (p := ⟨w.heap.size + 1, 0, none⟩) (by show w.heap.size ≤ w.heap.size + 1; omega) _).setCell (p := ⟨w.heap.size + 1, 1, none⟩) (by show w.heap.size ≤ w.heap.size + 1; omega) _
    have y0 := Blk.cell ((hR.d.set_ 0 (.int .i64 119)).set_ 1 (.string (strOfNums [155, burst, 16 * rate + id] ++ more))) 0 (v := .int .i64 119) rfl
    have y1 := Blk.cell ((hR.d.set_ 0 (.int .i64 119)).set_ 1 (.string (strOfNums [155, burst, 16 * rate + id] ++ more))) 1 (v := .string (strOfNums [155, burst, 16 * rate + id] ++ more)) rfl
    have HE := Lib.hid hend
    clear hend hR hbt f3 f4 f5 f6 k0 k1 z0 z1 kb kr ki kt hadd q1 q2 t9
    go_wp2_with fail
    exact bodyPost_ret (v := .tuple #[.agg #[.int .i64 119, .string (strOfNums [155, burst, 16 * rate + id] ++ more)], .int .i64 0]) (by simp [results, Try.results13, go_sem, y0, y1]) rfl ⟨by rw [HBD.out 155 (by simp [Sl.b0])], HE.out⟩
  · go_enter Try.func13, Try.ntmps13
    go_wp2_with fail
    (with_reducible refine (kb _).mono ?_); rintro e W1 ⟨rfl, rfl⟩
    go_wp2_with fail
    (with_reducible refine (kr _).mono ?_); rintro e W1 ⟨rfl, rfl⟩
    go_wp2_with fail
    (with_reducible refine (ki _).mono ?_); rintro e W1 ⟨rfl, rfl⟩
    go_wp2_with fail
    have k0 := cur_of (Blk.cell HX.out.d 0 (v := .int .i64 0) rfl)
    have k1 := cur_of (Blk.cell HX.out.d 1 (v := .string nob) rfl)
    have z0 := Blk.frozen HX.out.d 0
    have z1 := Blk.frozen HX.out.d 1
    go_region_held3 (fun w' => w'.cell? ⟨w.heap.size, 3, none⟩ = some (.int .i64 burst) ∧ w'.cell? ⟨w.heap.size, 4, none⟩ = some (.int .i64 rate) ∧ w'.cell? ⟨w.heap.size, 5, none⟩ = some (.int .i64 id) ∧ w'.cell? ⟨w.heap.size, 6, none⟩ = some (.string more) ∧ w'.cell? ⟨w.heap.size + 1, 0, none⟩ = some (cur w' ⟨w.heap.size + 1, 0, none⟩) ∧ w'.cell? ⟨w.heap.size + 1, 1, none⟩ = some (cur w' ⟨w.heap.size + 1, 1, none⟩) ∧ w'.frozen? ⟨w.heap.size + 1, 0, none⟩ = false ∧ w'.frozen? ⟨w.heap.size + 1, 1, none⟩ = false)
      (first | exact ⟨f3, f4, f5, f6, k0, k1, z0, z1⟩ | exact keepR (keepA HX.out) | exact keepR (keepC HX.out hbt) | (go_split_ands; exact keepS (by assumption) (by assumption) (by assumption) (by assumption) (by assumption) (by assumption) (by assumption) (by assumption)))
      (first | (go_at_call 42; refine Calls.mono (kt _ _ _ (ints_blk (Blk.drew (Blk.newAt _ _ _ ?_)) rfl) ?_) ?_; simp; decide; rintro e w' ⟨rfl, hbt⟩))
    have hR := keepC HX.out hbt
    have hend : Below w.heap.size w ((w'.setCell ⟨w.heap.size + 1, 0, none⟩ (.int .i64 119)).setCell ⟨w.heap.size + 1, 1, none⟩ (.string (strOfNums [184, burst, 16 * rate + id] ++ more))) := (hR.be.setCell (p := ⟨w.heap.size + 1, 0, none⟩) (by show w.heap.size ≤ w.heap.size + 1; omega) _).setCell (p := ⟨w.heap.size + 1, 1, none⟩) (by show w.heap.size ≤ w.heap.size + 1; omega) _
    have y0 := Blk.cell ((hR.d.set_ 0 (.int .i64 119)).set_ 1 (.string (strOfNums [184, burst, 16 * rate + id] ++ more))) 0 (v := .int .i64 119) rfl
    have y1 := Blk.cell ((hR.d.set_ 0 (.int .i64 119)).set_ 1 (.string (strOfNums [184, burst, 16 * rate + id] ++ more))) 1 (v := .string (strOfNums [184, burst, 16 * rate + id] ++ more)) rfl
    have HE := Lib.hid hend
    clear hend hR hbt f3 f4 f5 f6 k0 k1 z0 z1 kb kr ki kt hadd q1 q2 t9
    go_wp2_with fail
    exact bodyPost_ret (v := .tuple #[.agg #[.int .i64 119, .string (strOfNums [184, burst, 16 * rate + id] ++ more)], .int .i64 0]) (by simp [results, Try.results13, go_sem, y0, y1]) rfl ⟨by rw [HBD.out 184 (by simp [Sl.b0])], HE.out⟩
  · go_enter Try.func13, Try.ntmps13
    go_wp2_with fail
    (with_reducible refine (kb _).mono ?_); rintro e W1 ⟨rfl, rfl⟩
    go_wp2_with fail
    (with_reducible refine (kr _).mono ?_); rintro e W1 ⟨rfl, rfl⟩
    go_wp2_with fail
    (with_reducible refine (ki _).mono ?_); rintro e W1 ⟨rfl, rfl⟩
    go_wp2_with fail
    have k0 := cur_of (Blk.cell HX.out.d 0 (v := .int .i64 0) rfl)
    have k1 := cur_of (Blk.cell HX.out.d 1 (v := .string nob) rfl)
    have z0 := Blk.frozen HX.out.d 0
    have z1 := Blk.frozen HX.out.d 1
    go_region_held3 (fun w' => w'.cell? ⟨w.heap.size, 3, none⟩ = some (.int .i64 burst) ∧ w'.cell? ⟨w.heap.size, 4, none⟩ = some (.int .i64 rate) ∧ w'.cell? ⟨w.heap.size, 5, none⟩ = some (.int .i64 id) ∧ w'.cell? ⟨w.heap.size, 6, none⟩ = some (.string more) ∧ w'.cell? ⟨w.heap.size + 1, 0, none⟩ = some (cur w' ⟨w.heap.size + 1, 0, none⟩) ∧ w'.cell? ⟨w.heap.size + 1, 1, none⟩ = some (cur w' ⟨w.heap.size + 1, 1, none⟩) ∧ w'.frozen? ⟨w.heap.size + 1, 0, none⟩ = false ∧ w'.frozen? ⟨w.heap.size + 1, 1, none⟩ = false)
      (first | exact ⟨f3, f4, f5, f6, k0, k1, z0, z1⟩ | exact keepR (keepA HX.out) | exact keepR (keepC HX.out hbt) | (go_split_ands; exact keepS (by assumption) (by assumption) (by assumption) (by assumption) (by assumption) (by assumption) (by assumption) (by assumption)))
      (first | (go_at_call 42; refine Calls.mono (kt _ _ _ (ints_blk (Blk.drew (Blk.newAt _ _ _ ?_)) rfl) ?_) ?_; simp; decide; rintro e w' ⟨rfl, hbt⟩))
    have hR := keepC HX.out hbt
    have hend : Below w.heap.size w ((w'.setCell ⟨w.heap.size + 1, 0, none⟩ (.int .i64 119)).setCell ⟨w.heap.size + 1, 1, none⟩ (.string (strOfNums [185, burst, 16 * rate + id] ++ more))) := (hR.be.setCell (p := ⟨w.heap.size + 1, 0, none⟩) (by show w.heap.size ≤ w.heap.size + 1; omega) _).setCell (p := ⟨w.heap.size + 1, 1, none⟩) (by show w.heap.size ≤ w.heap.size + 1; omega) _
    have y0 := Blk.cell ((hR.d.set_ 0 (.int .i64 119)).set_ 1 (.string (strOfNums [185, burst, 16 * rate + id] ++ more))) 0 (v := .int .i64 119) rfl
    have y1 := Blk.cell ((hR.d.set_ 0 (.int .i64 119)).set_ 1 (.string (strOfNums [185, burst, 16 * rate + id] ++ more))) 1 (v := .string (strOfNums [185, burst, 16 * rate + id] ++ more)) rfl
    have HE := Lib.hid hend
    clear hend hR hbt f3 f4 f5 f6 k0 k1 z0 z1 kb kr ki kt hadd q1 q2 t9
    go_wp2_with fail
    exact bodyPost_ret (v := .tuple #[.agg #[.int .i64 119, .string (strOfNums [185, burst, 16 * rate + id] ++ more)], .int .i64 0]) (by simp [results, Try.results13, go_sem, y0, y1]) rfl ⟨by rw [HBD.out 185 (by simp [Sl.b0])], HE.out⟩
  · go_enter Try.func13, Try.ntmps13
    go_wp2_with fail
    (with_reducible refine (kb _).mono ?_); rintro e W1 ⟨rfl, rfl⟩
    go_wp2_with fail
    (with_reducible refine (kr _).mono ?_); rintro e W1 ⟨rfl, rfl⟩
    go_wp2_with fail
    (with_reducible refine (ki _).mono ?_); rintro e W1 ⟨rfl, rfl⟩
    go_wp2_with fail
    have k0 := cur_of (Blk.cell HX.out.d 0 (v := .int .i64 0) rfl)
    have k1 := cur_of (Blk.cell HX.out.d 1 (v := .string nob) rfl)
    have z0 := Blk.frozen HX.out.d 0
    have z1 := Blk.frozen HX.out.d 1
    go_region_held3 (fun w' => w'.cell? ⟨w.heap.size, 3, none⟩ = some (.int .i64 burst) ∧ w'.cell? ⟨w.heap.size, 4, none⟩ = some (.int .i64 rate) ∧ w'.cell? ⟨w.heap.size, 5, none⟩ = some (.int .i64 id) ∧ w'.cell? ⟨w.heap.size, 6, none⟩ = some (.string more) ∧ w'.cell? ⟨w.heap.size + 1, 0, none⟩ = some (cur w' ⟨w.heap.size + 1, 0, none⟩) ∧ w'.cell? ⟨w.heap.size + 1, 1, none⟩ = some (cur w' ⟨w.heap.size + 1, 1, none⟩) ∧ w'.frozen? ⟨w.heap.size + 1, 0, none⟩ = false ∧ w'.frozen? ⟨w.heap.size + 1, 1, none⟩ = false)
      (first | exact ⟨f3, f4, f5, f6, k0, k1, z0, z1⟩ | exact keepR (keepA HX.out) | exact keepR (keepC HX.out hbt) | (go_split_ands; exact keepS (by assumption) (by assumption) (by assumption) (by assumption) (by assumption) (by assumption) (by assumption) (by assumption)))
      (first | (go_at_call 42; refine Calls.mono (kt _ _ _ (ints_blk (Blk.drew (Blk.newAt _ _ _ ?_)) rfl) ?_) ?_; simp; decide; rintro e w' ⟨rfl, hbt⟩))
    have hR := keepC HX.out hbt
    have hend : Below w.heap.size w ((w'.setCell ⟨w.heap.size + 1, 0, none⟩ (.int .i64 119)).setCell ⟨w.heap.size + 1, 1, none⟩ (.string (strOfNums [186, burst, 16 * rate + id] ++ more))) := (hR.be.setCell (p := ⟨w.heap.size + 1, 0, none⟩) (by show w.heap.size ≤ w.heap.size + 1; omega) _).setCell (p := ⟨w.heap.size + 1, 1, none⟩) (by show w.heap.size ≤ w.heap.size + 1; omega) _
    have y0 := Blk.cell ((hR.d.set_ 0 (.int .i64 119)).set_ 1 (.string (strOfNums [186, burst, 16 * rate + id] ++ more))) 0 (v := .int .i64 119) rfl
    have y1 := Blk.cell ((hR.d.set_ 0 (.int .i64 119)).set_ 1 (.string (strOfNums [186, burst, 16 * rate + id] ++ more))) 1 (v := .string (strOfNums [186, burst, 16 * rate + id] ++ more)) rfl
    have HE := Lib.hid hend
    clear hend hR hbt f3 f4 f5 f6 k0 k1 z0 z1 kb kr ki kt hadd q1 q2 t9
    go_wp2_with fail
    exact bodyPost_ret (v := .tuple #[.agg #[.int .i64 119, .string (strOfNums [186, burst, 16 * rate + id] ++ more)], .int .i64 0]) (by simp [results, Try.results13, go_sem, y0, y1]) rfl ⟨by rw [HBD.out 186 (by simp [Sl.b0])], HE.out⟩
  · go_enter Try.func13, Try.ntmps13
    go_wp2_with fail
    (with_reducible refine (kb _).mono ?_); rintro e W1 ⟨rfl, rfl⟩
    go_wp2_with fail
    (with_reducible refine (kr _).mono ?_); rintro e W1 ⟨rfl, rfl⟩
    go_wp2_with fail
    (with_reducible refine (ki _).mono ?_); rintro e W1 ⟨rfl, rfl⟩
    go_wp2_with fail
    have k0 := cur_of (Blk.cell HX.out.d 0 (v := .int .i64 0) rfl)
    have k1 := cur_of (Blk.cell HX.out.d 1 (v := .string nob) rfl)
    have z0 := Blk.frozen HX.out.d 0
    have z1 := Blk.frozen HX.out.d 1
    go_region_held3 (fun w' => w'.cell? ⟨w.heap.size, 3, none⟩ = some (.int .i64 burst) ∧ w'.cell? ⟨w.heap.size, 4, none⟩ = some (.int .i64 rate) ∧ w'.cell? ⟨w.heap.size, 5, none⟩ = some (.int .i64 id) ∧ w'.cell? ⟨w.heap.size, 6, none⟩ = some (.string more) ∧ w'.cell? ⟨w.heap.size + 1, 0, none⟩ = some (cur w' ⟨w.heap.size + 1, 0, none⟩) ∧ w'.cell? ⟨w.heap.size + 1, 1, none⟩ = some (cur w' ⟨w.heap.size + 1, 1, none⟩) ∧ w'.frozen? ⟨w.heap.size + 1, 0, none⟩ = false ∧ w'.frozen? ⟨w.heap.size + 1, 1, none⟩ = false)
      (first | exact ⟨f3, f4, f5, f6, k0, k1, z0, z1⟩ | exact keepR (keepA HX.out) | exact keepR (keepC HX.out hbt) | (go_split_ands; exact keepS (by assumption) (by assumption) (by assumption) (by assumption) (by assumption) (by assumption) (by assumption) (by assumption)))
      (first | (go_at_call 42; refine Calls.mono (kt _ _ _ (ints_blk (Blk.drew (Blk.newAt _ _ _ ?_)) rfl) ?_) ?_; simp; decide; rintro e w' ⟨rfl, hbt⟩))
    have hR := keepC HX.out hbt
    have hend : Below w.heap.size w ((w'.setCell ⟨w.heap.size + 1, 0, none⟩ (.int .i64 119)).setCell ⟨w.heap.size + 1, 1, none⟩ (.string (strOfNums [187, burst, 16 * rate + id] ++ more))) := (hR.be.setCell (p := ⟨w.heap.size + 1, 0, none⟩) (by show w.heap.size ≤ w.heap.size + 1; omega) _).setCell (p := ⟨w.heap.size + 1, 1, none⟩) (by show w.heap.size ≤ w.heap.size + 1; omega) _
    have y0 := Blk.cell ((hR.d.set_ 0 (.int .i64 119)).set_ 1 (.string (strOfNums [187, burst, 16 * rate + id] ++ more))) 0 (v := .int .i64 119) rfl
    have y1 := Blk.cell ((hR.d.set_ 0 (.int .i64 119)).set_ 1 (.string (strOfNums [187, burst, 16 * rate + id] ++ more))) 1 (v := .string (strOfNums [187, burst, 16 * rate + id] ++ more)) rfl
    have HE := Lib.hid hend
    clear hend hR hbt f3 f4 f5 f6 k0 k1 z0 z1 kb kr ki kt hadd q1 q2 t9
    go_wp2_with fail
    exact bodyPost_ret (v := .tuple #[.agg #[.int .i64 119, .string (strOfNums [187, burst, 16 * rate + id] ++ more)], .int .i64 0]) (by simp [results, Try.results13, go_sem, y0, y1]) rfl ⟨by rw [HBD.out 187 (by simp [Sl.b0])], HE.out⟩
end Go.Proofs.Ytbceakdifklocaa.DsH
