/- MpeReads: the walk. -/
import Derived.Test.YtfadhgbhdoddpaaMpW
import Derived.Test.YtfadhgbhdoddpaaMpS
import Derived.Test.YtfadhgbhdoddpaaMpT
namespace Go.Proofs.Ytfadhgbhdoddpaa.MpV
open Go Go.RowKit Go.Proofs.Ytfadhgbhdoddpaa.Q Go.Proofs.Ytfadhgbhdoddpaa.Mem Go.Proofs.Ytfadhgbhdoddpaa.Rg Go.Proofs.Ytfadhgbhdoddpaa.Ap Go.Proofs.Ytfadhgbhdoddpaa.St Go.Proofs.Ytfadhgbhdoddpaa.BiP Go.Proofs.Ytfadhgbhdoddpaa.SeA Go.Proofs.Ytfadhgbhdoddpaa.SeC Go.Proofs.Ytfadhgbhdoddpaa.SeE Go.Proofs.Ytfadhgbhdoddpaa.SeEq Go.Proofs.Ytfadhgbhdoddpaa.SeI Go.Proofs.Ytfadhgbhdoddpaa.SeP Go.Proofs.Ytfadhgbhdoddpaa.TmA Go.Proofs.Ytfadhgbhdoddpaa.TmB Go.Proofs.Ytfadhgbhdoddpaa.MpA Go.Proofs.Ytfadhgbhdoddpaa.MpC Go.Proofs.Ytfadhgbhdoddpaa.MpD Go.Proofs.Ytfadhgbhdoddpaa.MpP Go.Proofs.Ytfadhgbhdoddpaa.MpR Go.Proofs.Ytfadhgbhdoddpaa.MpS Go.Proofs.Ytfadhgbhdoddpaa.MpT Go.Proofs.Ytfadhgbhdoddpaa.MpW

set_option maxRecDepth 100000
theorem eqTRP (a b : Mp) (w : World) : (Op.equalIn 10000 32 (.agg a.vals) (.agg b.vals)).run Try.prog w = .ok (decide (a = b)) w := by
  unfold Mp.vals
  have hS : Try.prog.underlying 32 = some (.struct (Try.prog.fieldsOf 32)) := by kernel_rfl
  have hp : Try.prog.stoodInHeld 32 = false := by kernel_rfl
  rw [show (10000 : Nat) = 9999 + 1 from rfl, run_equalIn_agg w 9999 32 _ _ hS hp]
  simp only [Program.fieldsOf, Try.underlying32]
  go_simp
  simp only [mp_iff]
  by_cases h1 : a.mac = b.mac <;> by_cases h4 : a.times.delta = b.times.delta <;> by_cases h5 : a.times.table = b.times.table <;> by_cases h6 : a.times.frame = b.times.frame <;> by_cases h7 : a.times.at_ = b.times.at_ <;> by_cases h8 : a.text = b.text <;> simp [h1, h4, h5, h6, h7, h8, tl_iff]
/-- a part that was read, with other times: only these may be wrong -/
theorem at_chk {t : ByteArray} (h : mdE t = 0) (x : Ti) : (atP (mdP t) x).chk = 0 ∨ (atP (mdP t) x).chk = 15 := by
  obtain ⟨h1, _⟩ := enc_md h
  obtain ⟨g1, g2, g3⟩ := mchk_zero h1
  unfold Mp.chk
  by_cases hx : x.ok
  · left
    exact (if_pos (And.intro (show (atP (mdP t) x).ok from g1) hx)).trans g3
  · right
    rw [if_neg (fun h => hx h.2)]
set_option maxHeartbeats 3200000 in
theorem reads_any (t : ByteArray) (x : Ti) (w : World) : Calls Try.prog 8 #[.string t, .agg x.vals] w fun e w' => e = .returned (.bool true) ∧ Below w.heap.size w w' := by
  have kaw := fun V => awake_any V
  have HB := Lib.hid (bk1 w 23 x.vals)
  by_cases h1 : 5000 < t.size
  · have t1 : decide (5000 < (t.size : Int)) = true := by simp; omega
    unfold Ti.vals at *
    have hbe := HB.out.be
    clear h1
    go_enter Try.func8, Try.ntmps8
    go_wp2_with fail
    (with_reducible refine (kaw _).mono ?_); rintro e1 W9 ⟨rfl, hb9⟩
    have hE := hbe.trans (hb9.mono hbe.size)
    go_wp2_with fail
    go_ret
    exact ⟨rfl, hE⟩
  · have t1 : decide (5000 < (t.size : Int)) = false := by simp; omega
    have kd := fun V => mdec_any t V (by omega)
    have kr := fun V => rmdec_any t V (by omega)
    have kw := fun V => mwith_any t x V (by omega)
    have kp := fun V => mplain_any (mdP t) V
    have heq := fun V => eqTRP (mdP t) (mdP t) V
    rw [decide_eq_true rfl] at heq
    have kis := fun V => is_any t V
    have kc := fun V => rmcheck_any (atP (mdP t) x) V (dp_size t)
    have kb := fun (h : (atP (mdP t) x).chk = 0) V => rmbytes_any (atP (mdP t) x) V h
    have hC : mdE t = 0 → (mwE t x = 0 ∧ (atP (mdP t) x).chk = 0 ∧ mwS t x = bytesS (atP (mdP t) x).sec) ∨ (mwE t x = 15 ∧ (atP (mdP t) x).chk = 15 ∧ mwS t x = nob) := fun h => by
      have h2 : mwE t x = (atP (mdP t) x).chk := if_pos h
      have h3 : mwS t x = (atP (mdP t) x).enc := if_pos h
      rw [h2, h3]
      rcases at_chk h x with h4 | h4
      · exact .inl ⟨h4, h4, by unfold Mp.enc; rw [if_pos h4]⟩
      · exact .inr ⟨h4, h4, by unfold Mp.enc; rw [if_neg (by rw [h4]; decide)]⟩
    have hZ : mdE t ≠ 0 → mwE t x = mdE t ∧ mwS t x = nob := fun h => ⟨if_neg h, if_neg h⟩
    have hq : (atP (mdP t) x).vals = #[.int .i64 (mdP t).mac, .int .i64 x.delta, .bool x.table, .bool x.frame, .int .i64 x.at_, .string (mdP t).text] := rfl
    rw [hq] at kc kb
    obtain ⟨E, hE⟩ : ∃ E, mwE t x = E := ⟨_, rfl⟩
    obtain ⟨S, hS⟩ : ∃ S, mwS t x = S := ⟨_, rfl⟩
    obtain ⟨R, hR⟩ : ∃ R, bytesS (atP (mdP t) x).sec = R := ⟨_, rfl⟩
    obtain ⟨c2, hc2⟩ : ∃ c, mdE t = c := ⟨_, rfl⟩
    obtain ⟨c3, hc3⟩ : ∃ c, (atP (mdP t) x).chk = c := ⟨_, rfl⟩
    rw [hE, hS] at kw
    rw [hc2] at kd kr
    rw [hc3] at kc kb
    rw [hR] at kb
    rw [hE, hc3, hS, hR, hc2] at hC
    rw [hE, hc2, hS] at hZ
    obtain ⟨Q, hQ⟩ : ∃ Q, mdP t = Q := ⟨_, rfl⟩
    rw [hQ] at kd kr kp heq kc kb
    have HC := Lib.hid hC
    have HZ := Lib.hid hZ
    obtain ⟨d, ta, fr, a⟩ := x
    unfold Ti.vals Mp.vals at *
    dsimp only at *
    have hcc : (c2 != c2) = false := by simp
    clear hq hE hS hR hc2 hc3 hC hZ hQ h1
    by_cases h0 : 0 < t.size
    · have hi := fun V => idx_at t 0 h0 V
      rw [show (((0 : Nat)) : Int) = 0 from rfl] at hi
      have t4 : decide (0 < t.size) = true := by simp; omega
      have hb : decide (0 < t.size ∧ at' t 0 = 62) = decide (at' t 0 = 62) := by
        rw [decide_eq_decide]
        exact ⟨fun h => h.2, fun h => ⟨h0, h⟩⟩
      rw [hb] at kis
      clear h0 hb
      obtain ⟨z, hz⟩ : ∃ z, at' t 0 = z := ⟨_, rfl⟩
      rw [hz] at kis hi
      clear hz
      by_cases hz : z = 62
      · subst hz
        rw [decide_eq_true rfl] at kis
        go_enter Try.func8, Try.ntmps8
        go_wp2_with fail
        (with_reducible refine (kd _).mono ?_); rintro e1 W1 ⟨rfl, hb1⟩
        have HB1 := Lib.hid ((HB.out.below hb1).new 25 Q.vals)
        unfold Mp.vals at HB1
        clear hb1 kd HB
        go_wp2_with fail
        (with_reducible refine (kr _).mono ?_); rintro e1 W2 ⟨rfl, hb2⟩
        have HB2 := Lib.hid ((HB1.out.below hb2).new 32 Q.vals)
        have hg2 : w.heap.size ≤ W2.heap.size := (HB1.out.below hb2).size
        unfold Mp.vals at HB2
        clear hb2 kr HB1
        have x0 := Blk.cell (HB2.out.nth 2 rfl) 0 (v := .int .i64 d) rfl
        have x1 := Blk.cell (HB2.out.nth 2 rfl) 1 (v := .bool ta) rfl
        have x2 := Blk.cell (HB2.out.nth 2 rfl) 2 (v := .bool fr) rfl
        have x3 := Blk.cell (HB2.out.nth 2 rfl) 3 (v := .int .i64 a) rfl
        go_wp2_with fail
        (with_reducible refine (kw _).mono ?_); rintro e1 W3 ⟨rfl, hb3⟩
        have HB3 := Lib.hid (HB2.out.below hb3)
        clear hb3 kw HB2 x0 x1 x2 x3
        go_wp2_with fail
        have c0 := fun pX => Blk.cell (blk_ext (HB3.out.nth 1 rfl) pX) 0 (v := .int .i64 Q.mac) rfl
        have c1 := fun pX => Blk.cell (blk_ext (HB3.out.nth 1 rfl) pX) 1 (v := .int .i64 Q.times.delta) rfl
        have c2 := fun pX => Blk.cell (blk_ext (HB3.out.nth 1 rfl) pX) 2 (v := .bool Q.times.table) rfl
        have c3 := fun pX => Blk.cell (blk_ext (HB3.out.nth 1 rfl) pX) 3 (v := .bool Q.times.frame) rfl
        have c4 := fun pX => Blk.cell (blk_ext (HB3.out.nth 1 rfl) pX) 4 (v := .int .i64 Q.times.at_) rfl
        have c5 := fun pX => Blk.cell (blk_ext (HB3.out.nth 1 rfl) pX) 5 (v := .string Q.text) rfl
        have y0 := fun pX => Blk.cell (blk_ext (HB3.out.nth 0 rfl) pX) 0 (v := .int .i64 Q.mac) rfl
        have y1 := fun pX => Blk.cell (blk_ext (HB3.out.nth 0 rfl) pX) 1 (v := .int .i64 Q.times.delta) rfl
        have y2 := fun pX => Blk.cell (blk_ext (HB3.out.nth 0 rfl) pX) 2 (v := .bool Q.times.table) rfl
        have y3 := fun pX => Blk.cell (blk_ext (HB3.out.nth 0 rfl) pX) 3 (v := .bool Q.times.frame) rfl
        have y4 := fun pX => Blk.cell (blk_ext (HB3.out.nth 0 rfl) pX) 4 (v := .int .i64 Q.times.at_) rfl
        have y5 := fun pX => Blk.cell (blk_ext (HB3.out.nth 0 rfl) pX) 5 (v := .string Q.text) rfl
        refine Go.Proofs.Ytfadhgbhdoddpaa.Q.region_ext (by kernel_rfl) (by kernel_rfl) ?_
        repeat (go_big_quiet_step (first | (go_at_call 13; exact ext_call (kp _)) | (go_at_call 16; exact ext_call_same (kis _))))
        refine wpQuiet_nil ?_
        rintro w9 ⟨pq, rfl⟩
        have HB4 := Lib.hid (HB3.out.px pq)
        clear HB3 c0 c1 c2 c3 c4 c5 y0 y1 y2 y3 y4 y5
        by_cases g2 : c2 = 0
        · subst g2
          have g3 := HC.out rfl
          have x0 := Blk.cell (HB4.out.nth 2 rfl) 0 (v := .int .i64 d) rfl
          have x1 := Blk.cell (HB4.out.nth 2 rfl) 1 (v := .bool ta) rfl
          have x2 := Blk.cell (HB4.out.nth 2 rfl) 2 (v := .bool fr) rfl
          have x3 := Blk.cell (HB4.out.nth 2 rfl) 3 (v := .int .i64 a) rfl
          go_wp2_with (refine wpList_store_blk (g := W2.heap.size) (T := 32) (cs' := #[.int .i64 Q.mac, .int .i64 d, .bool ta, .bool fr, .int .i64 a, .string Q.text]) rfl 23 _ _ rfl rfl rfl (HB4.out.nth 0 rfl) (by kernel_rfl) (by kernel_rfl) (by kernel_rfl) (by kernel_rfl) ?_; intro V hV hgr hsz; have d0 := Blk.cell hV 0 (v := .int .i64 Q.mac) rfl; have d1 := Blk.cell hV 1 (v := .int .i64 d) rfl; have d2 := Blk.cell hV 2 (v := .bool ta) rfl; have d3 := Blk.cell hV 3 (v := .bool fr) rfl; have d4 := Blk.cell hV 4 (v := .int .i64 a) rfl; have d5 := Blk.cell hV 5 (v := .string Q.text) rfl)
          have HV := Lib.hid (show Bk w V [(W2.heap.size, 32, #[.int .i64 Q.mac, .int .i64 d, .bool ta, .bool fr, .int .i64 a, .string Q.text])] from ⟨HB4.out.be.trans (below_of_only hgr HB4.out.size (fun k hk => by injection hk with hk; omega)), fun x hx => by
            rcases List.mem_cons.1 hx with rfl | hx
            · exact hV
            · cases hx⟩)
          clear hV hgr hsz HB4 x0 x1 x2 x3
          (with_reducible refine (kc _).mono ?_); rintro e1 W5 ⟨rfl, hb5⟩
          have HB5 := Lib.hid (HV.out.below hb5)
          have hbe := HB5.out.be
          clear hb5 kc HV d0 d1 d2 d3 d4 d5
          rcases g3 with ⟨g3, g4, g5⟩ | ⟨g3, g4, g5⟩
          · subst g3 g4 g5
            have hee : (S.toList == S.toList) = true := by simp
            have kb' := kb rfl
            clear kb
            have d0 := Blk.cell (HB5.out.nth 0 rfl) 0 (v := .int .i64 Q.mac) rfl
            have d1 := Blk.cell (HB5.out.nth 0 rfl) 1 (v := .int .i64 d) rfl
            have d2 := Blk.cell (HB5.out.nth 0 rfl) 2 (v := .bool ta) rfl
            have d3 := Blk.cell (HB5.out.nth 0 rfl) 3 (v := .bool fr) rfl
            have d4 := Blk.cell (HB5.out.nth 0 rfl) 4 (v := .int .i64 a) rfl
            have d5 := Blk.cell (HB5.out.nth 0 rfl) 5 (v := .string Q.text) rfl
            go_wp2_with fail
            (with_reducible refine (kb' _).mono ?_); rintro e1 W6 ⟨rfl, hb6⟩
            replace hbe := (HB5.out.below hb6).be
            clear hb6 kb' d0 d1 d2 d3 d4 d5
            go_wp2_with fail
            (with_reducible refine (kaw _).mono ?_); rintro e1 W9 ⟨rfl, hb9⟩
            have hE := hbe.trans (hb9.mono hbe.size)
            go_wp2_with fail
            go_ret
            exact ⟨rfl, hE⟩
          · subst g3 g4 g5
            clear kb
            go_wp2_with fail
            (with_reducible refine (kaw _).mono ?_); rintro e1 W9 ⟨rfl, hb9⟩
            have hE := hbe.trans (hb9.mono hbe.size)
            go_wp2_with fail
            go_ret
            exact ⟨rfl, hE⟩
        · have t3 : (c2 != 0) = true := by simpa using g2
          obtain ⟨g3, g4⟩ := HZ.out g2
          subst g3 g4
          have hbe := HB4.out.be
          have hcc : (E == E) = true := by simp
          clear g2 HC HZ kb kc
          go_wp2_with fail
          (with_reducible refine (kaw _).mono ?_); rintro e1 W9 ⟨rfl, hb9⟩
          have hE := hbe.trans (hb9.mono hbe.size)
          go_wp2_with fail
          go_ret
          exact ⟨rfl, hE⟩
      · have tz : (z == 62) = false := by simpa using hz
        rw [decide_eq_false hz] at kis
        clear hz
        go_enter Try.func8, Try.ntmps8
        go_wp2_with fail
        (with_reducible refine (kd _).mono ?_); rintro e1 W1 ⟨rfl, hb1⟩
        have HB1 := Lib.hid ((HB.out.below hb1).new 25 Q.vals)
        unfold Mp.vals at HB1
        clear hb1 kd HB
        go_wp2_with fail
        (with_reducible refine (kr _).mono ?_); rintro e1 W2 ⟨rfl, hb2⟩
        have HB2 := Lib.hid ((HB1.out.below hb2).new 32 Q.vals)
        have hg2 : w.heap.size ≤ W2.heap.size := (HB1.out.below hb2).size
        unfold Mp.vals at HB2
        clear hb2 kr HB1
        have x0 := Blk.cell (HB2.out.nth 2 rfl) 0 (v := .int .i64 d) rfl
        have x1 := Blk.cell (HB2.out.nth 2 rfl) 1 (v := .bool ta) rfl
        have x2 := Blk.cell (HB2.out.nth 2 rfl) 2 (v := .bool fr) rfl
        have x3 := Blk.cell (HB2.out.nth 2 rfl) 3 (v := .int .i64 a) rfl
        go_wp2_with fail
        (with_reducible refine (kw _).mono ?_); rintro e1 W3 ⟨rfl, hb3⟩
        have HB3 := Lib.hid (HB2.out.below hb3)
        clear hb3 kw HB2 x0 x1 x2 x3
        go_wp2_with fail
        have c0 := fun pX => Blk.cell (blk_ext (HB3.out.nth 1 rfl) pX) 0 (v := .int .i64 Q.mac) rfl
        have c1 := fun pX => Blk.cell (blk_ext (HB3.out.nth 1 rfl) pX) 1 (v := .int .i64 Q.times.delta) rfl
        have c2 := fun pX => Blk.cell (blk_ext (HB3.out.nth 1 rfl) pX) 2 (v := .bool Q.times.table) rfl
        have c3 := fun pX => Blk.cell (blk_ext (HB3.out.nth 1 rfl) pX) 3 (v := .bool Q.times.frame) rfl
        have c4 := fun pX => Blk.cell (blk_ext (HB3.out.nth 1 rfl) pX) 4 (v := .int .i64 Q.times.at_) rfl
        have c5 := fun pX => Blk.cell (blk_ext (HB3.out.nth 1 rfl) pX) 5 (v := .string Q.text) rfl
        have y0 := fun pX => Blk.cell (blk_ext (HB3.out.nth 0 rfl) pX) 0 (v := .int .i64 Q.mac) rfl
        have y1 := fun pX => Blk.cell (blk_ext (HB3.out.nth 0 rfl) pX) 1 (v := .int .i64 Q.times.delta) rfl
        have y2 := fun pX => Blk.cell (blk_ext (HB3.out.nth 0 rfl) pX) 2 (v := .bool Q.times.table) rfl
        have y3 := fun pX => Blk.cell (blk_ext (HB3.out.nth 0 rfl) pX) 3 (v := .bool Q.times.frame) rfl
        have y4 := fun pX => Blk.cell (blk_ext (HB3.out.nth 0 rfl) pX) 4 (v := .int .i64 Q.times.at_) rfl
        have y5 := fun pX => Blk.cell (blk_ext (HB3.out.nth 0 rfl) pX) 5 (v := .string Q.text) rfl
        refine Go.Proofs.Ytfadhgbhdoddpaa.Q.region_ext (by kernel_rfl) (by kernel_rfl) ?_
        repeat (go_big_quiet_step (first | (go_at_call 13; exact ext_call (kp _)) | (go_at_call 16; exact ext_call_same (kis _))))
        refine wpQuiet_nil ?_
        rintro w9 ⟨pq, rfl⟩
        have HB4 := Lib.hid (HB3.out.px pq)
        clear HB3 c0 c1 c2 c3 c4 c5 y0 y1 y2 y3 y4 y5
        by_cases g2 : c2 = 0
        · subst g2
          have g3 := HC.out rfl
          have x0 := Blk.cell (HB4.out.nth 2 rfl) 0 (v := .int .i64 d) rfl
          have x1 := Blk.cell (HB4.out.nth 2 rfl) 1 (v := .bool ta) rfl
          have x2 := Blk.cell (HB4.out.nth 2 rfl) 2 (v := .bool fr) rfl
          have x3 := Blk.cell (HB4.out.nth 2 rfl) 3 (v := .int .i64 a) rfl
          go_wp2_with (refine wpList_store_blk (g := W2.heap.size) (T := 32) (cs' := #[.int .i64 Q.mac, .int .i64 d, .bool ta, .bool fr, .int .i64 a, .string Q.text]) rfl 23 _ _ rfl rfl rfl (HB4.out.nth 0 rfl) (by kernel_rfl) (by kernel_rfl) (by kernel_rfl) (by kernel_rfl) ?_; intro V hV hgr hsz; have d0 := Blk.cell hV 0 (v := .int .i64 Q.mac) rfl; have d1 := Blk.cell hV 1 (v := .int .i64 d) rfl; have d2 := Blk.cell hV 2 (v := .bool ta) rfl; have d3 := Blk.cell hV 3 (v := .bool fr) rfl; have d4 := Blk.cell hV 4 (v := .int .i64 a) rfl; have d5 := Blk.cell hV 5 (v := .string Q.text) rfl)
          have HV := Lib.hid (show Bk w V [(W2.heap.size, 32, #[.int .i64 Q.mac, .int .i64 d, .bool ta, .bool fr, .int .i64 a, .string Q.text])] from ⟨HB4.out.be.trans (below_of_only hgr HB4.out.size (fun k hk => by injection hk with hk; omega)), fun x hx => by
            rcases List.mem_cons.1 hx with rfl | hx
            · exact hV
            · cases hx⟩)
          clear hV hgr hsz HB4 x0 x1 x2 x3
          (with_reducible refine (kc _).mono ?_); rintro e1 W5 ⟨rfl, hb5⟩
          have HB5 := Lib.hid (HV.out.below hb5)
          have hbe := HB5.out.be
          clear hb5 kc HV d0 d1 d2 d3 d4 d5
          rcases g3 with ⟨g3, g4, g5⟩ | ⟨g3, g4, g5⟩
          · subst g3 g4 g5
            have hee : (S.toList == S.toList) = true := by simp
            have kb' := kb rfl
            clear kb
            have d0 := Blk.cell (HB5.out.nth 0 rfl) 0 (v := .int .i64 Q.mac) rfl
            have d1 := Blk.cell (HB5.out.nth 0 rfl) 1 (v := .int .i64 d) rfl
            have d2 := Blk.cell (HB5.out.nth 0 rfl) 2 (v := .bool ta) rfl
            have d3 := Blk.cell (HB5.out.nth 0 rfl) 3 (v := .bool fr) rfl
            have d4 := Blk.cell (HB5.out.nth 0 rfl) 4 (v := .int .i64 a) rfl
            have d5 := Blk.cell (HB5.out.nth 0 rfl) 5 (v := .string Q.text) rfl
            go_wp2_with fail
            (with_reducible refine (kb' _).mono ?_); rintro e1 W6 ⟨rfl, hb6⟩
            replace hbe := (HB5.out.below hb6).be
            clear hb6 kb' d0 d1 d2 d3 d4 d5
            go_wp2_with fail
            (with_reducible refine (kaw _).mono ?_); rintro e1 W9 ⟨rfl, hb9⟩
            have hE := hbe.trans (hb9.mono hbe.size)
            go_wp2_with fail
            go_ret
            exact ⟨rfl, hE⟩
          · subst g3 g4 g5
            clear kb
            go_wp2_with fail
            (with_reducible refine (kaw _).mono ?_); rintro e1 W9 ⟨rfl, hb9⟩
            have hE := hbe.trans (hb9.mono hbe.size)
            go_wp2_with fail
            go_ret
            exact ⟨rfl, hE⟩
        · have t3 : (c2 != 0) = true := by simpa using g2
          obtain ⟨g3, g4⟩ := HZ.out g2
          subst g3 g4
          have hbe := HB4.out.be
          have hcc : (E == E) = true := by simp
          clear g2 HC HZ kb kc
          go_wp2_with fail
          (with_reducible refine (kaw _).mono ?_); rintro e1 W9 ⟨rfl, hb9⟩
          have hE := hbe.trans (hb9.mono hbe.size)
          go_wp2_with fail
          go_ret
          exact ⟨rfl, hE⟩
    · have t4 : decide (0 < t.size) = false := decide_eq_false h0
      have hb : decide (0 < t.size ∧ at' t 0 = 62) = false := by
        rw [decide_eq_false_iff_not]
        exact fun h => h0 h.1
      rw [hb] at kis
      clear h0 hb
      go_enter Try.func8, Try.ntmps8
      go_wp2_with fail
      (with_reducible refine (kd _).mono ?_); rintro e1 W1 ⟨rfl, hb1⟩
      have HB1 := Lib.hid ((HB.out.below hb1).new 25 Q.vals)
      unfold Mp.vals at HB1
      clear hb1 kd HB
      go_wp2_with fail
      (with_reducible refine (kr _).mono ?_); rintro e1 W2 ⟨rfl, hb2⟩
      have HB2 := Lib.hid ((HB1.out.below hb2).new 32 Q.vals)
      have hg2 : w.heap.size ≤ W2.heap.size := (HB1.out.below hb2).size
      unfold Mp.vals at HB2
      clear hb2 kr HB1
      have x0 := Blk.cell (HB2.out.nth 2 rfl) 0 (v := .int .i64 d) rfl
      have x1 := Blk.cell (HB2.out.nth 2 rfl) 1 (v := .bool ta) rfl
      have x2 := Blk.cell (HB2.out.nth 2 rfl) 2 (v := .bool fr) rfl
      have x3 := Blk.cell (HB2.out.nth 2 rfl) 3 (v := .int .i64 a) rfl
      go_wp2_with fail
      (with_reducible refine (kw _).mono ?_); rintro e1 W3 ⟨rfl, hb3⟩
      have HB3 := Lib.hid (HB2.out.below hb3)
      clear hb3 kw HB2 x0 x1 x2 x3
      go_wp2_with fail
      have c0 := fun pX => Blk.cell (blk_ext (HB3.out.nth 1 rfl) pX) 0 (v := .int .i64 Q.mac) rfl
      have c1 := fun pX => Blk.cell (blk_ext (HB3.out.nth 1 rfl) pX) 1 (v := .int .i64 Q.times.delta) rfl
      have c2 := fun pX => Blk.cell (blk_ext (HB3.out.nth 1 rfl) pX) 2 (v := .bool Q.times.table) rfl
      have c3 := fun pX => Blk.cell (blk_ext (HB3.out.nth 1 rfl) pX) 3 (v := .bool Q.times.frame) rfl
      have c4 := fun pX => Blk.cell (blk_ext (HB3.out.nth 1 rfl) pX) 4 (v := .int .i64 Q.times.at_) rfl
      have c5 := fun pX => Blk.cell (blk_ext (HB3.out.nth 1 rfl) pX) 5 (v := .string Q.text) rfl
      have y0 := fun pX => Blk.cell (blk_ext (HB3.out.nth 0 rfl) pX) 0 (v := .int .i64 Q.mac) rfl
      have y1 := fun pX => Blk.cell (blk_ext (HB3.out.nth 0 rfl) pX) 1 (v := .int .i64 Q.times.delta) rfl
      have y2 := fun pX => Blk.cell (blk_ext (HB3.out.nth 0 rfl) pX) 2 (v := .bool Q.times.table) rfl
      have y3 := fun pX => Blk.cell (blk_ext (HB3.out.nth 0 rfl) pX) 3 (v := .bool Q.times.frame) rfl
      have y4 := fun pX => Blk.cell (blk_ext (HB3.out.nth 0 rfl) pX) 4 (v := .int .i64 Q.times.at_) rfl
      have y5 := fun pX => Blk.cell (blk_ext (HB3.out.nth 0 rfl) pX) 5 (v := .string Q.text) rfl
      refine Go.Proofs.Ytfadhgbhdoddpaa.Q.region_ext (by kernel_rfl) (by kernel_rfl) ?_
      repeat (go_big_quiet_step (first | (go_at_call 13; exact ext_call (kp _)) | (go_at_call 16; exact ext_call_same (kis _))))
      refine wpQuiet_nil ?_
      rintro w9 ⟨pq, rfl⟩
      have HB4 := Lib.hid (HB3.out.px pq)
      clear HB3 c0 c1 c2 c3 c4 c5 y0 y1 y2 y3 y4 y5
      by_cases g2 : c2 = 0
      · subst g2
        have g3 := HC.out rfl
        have x0 := Blk.cell (HB4.out.nth 2 rfl) 0 (v := .int .i64 d) rfl
        have x1 := Blk.cell (HB4.out.nth 2 rfl) 1 (v := .bool ta) rfl
        have x2 := Blk.cell (HB4.out.nth 2 rfl) 2 (v := .bool fr) rfl
        have x3 := Blk.cell (HB4.out.nth 2 rfl) 3 (v := .int .i64 a) rfl
        go_wp2_with (refine wpList_store_blk (g := W2.heap.size) (T := 32) (cs' := #[.int .i64 Q.mac, .int .i64 d, .bool ta, .bool fr, .int .i64 a, .string Q.text]) rfl 23 _ _ rfl rfl rfl (HB4.out.nth 0 rfl) (by kernel_rfl) (by kernel_rfl) (by kernel_rfl) (by kernel_rfl) ?_; intro V hV hgr hsz; have d0 := Blk.cell hV 0 (v := .int .i64 Q.mac) rfl; have d1 := Blk.cell hV 1 (v := .int .i64 d) rfl; have d2 := Blk.cell hV 2 (v := .bool ta) rfl; have d3 := Blk.cell hV 3 (v := .bool fr) rfl; have d4 := Blk.cell hV 4 (v := .int .i64 a) rfl; have d5 := Blk.cell hV 5 (v := .string Q.text) rfl)
        have HV := Lib.hid (show Bk w V [(W2.heap.size, 32, #[.int .i64 Q.mac, .int .i64 d, .bool ta, .bool fr, .int .i64 a, .string Q.text])] from ⟨HB4.out.be.trans (below_of_only hgr HB4.out.size (fun k hk => by injection hk with hk; omega)), fun x hx => by
          rcases List.mem_cons.1 hx with rfl | hx
          · exact hV
          · cases hx⟩)
        clear hV hgr hsz HB4 x0 x1 x2 x3
        (with_reducible refine (kc _).mono ?_); rintro e1 W5 ⟨rfl, hb5⟩
        have HB5 := Lib.hid (HV.out.below hb5)
        have hbe := HB5.out.be
        clear hb5 kc HV d0 d1 d2 d3 d4 d5
        rcases g3 with ⟨g3, g4, g5⟩ | ⟨g3, g4, g5⟩
        · subst g3 g4 g5
          have hee : (S.toList == S.toList) = true := by simp
          have kb' := kb rfl
          clear kb
          have d0 := Blk.cell (HB5.out.nth 0 rfl) 0 (v := .int .i64 Q.mac) rfl
          have d1 := Blk.cell (HB5.out.nth 0 rfl) 1 (v := .int .i64 d) rfl
          have d2 := Blk.cell (HB5.out.nth 0 rfl) 2 (v := .bool ta) rfl
          have d3 := Blk.cell (HB5.out.nth 0 rfl) 3 (v := .bool fr) rfl
          have d4 := Blk.cell (HB5.out.nth 0 rfl) 4 (v := .int .i64 a) rfl
          have d5 := Blk.cell (HB5.out.nth 0 rfl) 5 (v := .string Q.text) rfl
          go_wp2_with fail
          (with_reducible refine (kb' _).mono ?_); rintro e1 W6 ⟨rfl, hb6⟩
          replace hbe := (HB5.out.below hb6).be
          clear hb6 kb' d0 d1 d2 d3 d4 d5
          go_wp2_with fail
          (with_reducible refine (kaw _).mono ?_); rintro e1 W9 ⟨rfl, hb9⟩
          have hE := hbe.trans (hb9.mono hbe.size)
          go_wp2_with fail
          go_ret
          exact ⟨rfl, hE⟩
        · subst g3 g4 g5
          clear kb
          go_wp2_with fail
          (with_reducible refine (kaw _).mono ?_); rintro e1 W9 ⟨rfl, hb9⟩
          have hE := hbe.trans (hb9.mono hbe.size)
          go_wp2_with fail
          go_ret
          exact ⟨rfl, hE⟩
      · have t3 : (c2 != 0) = true := by simpa using g2
        obtain ⟨g3, g4⟩ := HZ.out g2
        subst g3 g4
        have hbe := HB4.out.be
        have hcc : (E == E) = true := by simp
        clear g2 HC HZ kb kc
        go_wp2_with fail
        (with_reducible refine (kaw _).mono ?_); rintro e1 W9 ⟨rfl, hb9⟩
        have hE := hbe.trans (hb9.mono hbe.size)
        go_wp2_with fail
        go_ret
        exact ⟨rfl, hE⟩
end Go.Proofs.Ytfadhgbhdoddpaa.MpV
