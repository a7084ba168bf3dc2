/- MpeBack: the walk. -/
import Derived.Test.YtfadhgbhdoddpaaMpW
namespace Go.Proofs.Ytfadhgbhdoddpaa.MpU
open Go Go.RowKit Go.Proofs.Ytfadhgbhdoddpaa.Q Go.Proofs.Ytfadhgbhdoddpaa.Mem Go.Proofs.Ytfadhgbhdoddpaa.Rg Go.Proofs.Ytfadhgbhdoddpaa.Ap Go.Proofs.Ytfadhgbhdoddpaa.St Go.Proofs.Ytfadhgbhdoddpaa.BiP Go.Proofs.Ytfadhgbhdoddpaa.SeA Go.Proofs.Ytfadhgbhdoddpaa.SeC Go.Proofs.Ytfadhgbhdoddpaa.SeE Go.Proofs.Ytfadhgbhdoddpaa.SeEq Go.Proofs.Ytfadhgbhdoddpaa.SeI Go.Proofs.Ytfadhgbhdoddpaa.SeP Go.Proofs.Ytfadhgbhdoddpaa.TmA Go.Proofs.Ytfadhgbhdoddpaa.TmB Go.Proofs.Ytfadhgbhdoddpaa.MpA Go.Proofs.Ytfadhgbhdoddpaa.MpC Go.Proofs.Ytfadhgbhdoddpaa.MpD Go.Proofs.Ytfadhgbhdoddpaa.MpP Go.Proofs.Ytfadhgbhdoddpaa.MpW

set_option maxRecDepth 100000
theorem with_enc {p : Mp} (h : p.chk = 0) (x : Ti) : mwE p.enc x = (atP p x).chk ∧ mwS p.enc x = (atP p x).enc := by
  obtain ⟨h1, h2⟩ := md_enc h
  exact ⟨by rw [show mwE p.enc x = (atP (mdP p.enc) x).chk from if_pos h1, h2], by rw [show mwS p.enc x = (atP (mdP p.enc) x).enc from if_pos h1, h2]⟩
theorem with_back {p : Mp} (h : p.chk = 0) {x : Ti} (h' : (atP p x).chk = 0) : mwE (atP p x).enc p.times = 0 ∧ mwS (atP p x).enc p.times = p.enc ∧ mdE (atP p x).enc = 0 ∧ mdP (atP p x).enc = atP p x := by
  obtain ⟨h1, h2⟩ := md_enc h'
  obtain ⟨g1, g2⟩ := with_enc h' p.times
  have e : atP (atP p x) p.times = p := rfl
  rw [e] at g1 g2
  exact ⟨g1.trans h, g2, h1, h2⟩
set_option maxHeartbeats 3200000 in
theorem back_any (p : Mp) (t : ByteArray) (x : Ti) (w : World) : Calls Try.prog 6 #[.agg p.vals, .string t, .agg x.vals] w fun e w' => e = .returned (.bool true) ∧ Below w.heap.size w w' := by
  have kaw := fun V => awake_any V
  have HB := Lib.hid (bk2 w 25 23 p.vals x.vals)
  by_cases h1 : 5000 < p.text.size
  · have t1 : decide (5000 < (p.text.size : Int)) = true := by simp; omega
    unfold Mp.vals Ti.vals at *
    have hbe := HB.out.be
    clear h1
    go_enter Try.func6, Try.ntmps6
    go_wp2_with fail
    (with_reducible refine (kaw _).mono ?_); rintro e1 W9 ⟨rfl, hb9⟩
    have hE := hbe.trans (hb9.mono hbe.size)
    go_wp2_with fail
    go_ret
    exact ⟨rfl, hE⟩
  · have t1 : decide (5000 < (p.text.size : Int)) = false := by simp; omega
    by_cases h2 : 5000 < t.size
    · have t2 : decide (5000 < (t.size : Int)) = true := by simp; omega
      unfold Mp.vals Ti.vals at *
      have hbe := HB.out.be
      clear h1 h2
      go_enter Try.func6, Try.ntmps6
      go_wp2_with fail
      (with_reducible refine (kaw _).mono ?_); rintro e1 W9 ⟨rfl, hb9⟩
      have hE := hbe.trans (hb9.mono hbe.size)
      go_wp2_with fail
      go_ret
      exact ⟨rfl, hE⟩
    · have t2 : decide (5000 < (t.size : Int)) = false := by simp; omega
      have ke := fun V => menc_any p V (by omega)
      have kt := fun V => mdec_any t V (by omega)
      have kq := fun V => menc_any (mdP t) V (dp_size t)
      have hk := @enc_md t
      have hz : mdE t ≠ 0 → mdP t = zeroP := fun h => (md_zero rfl h).2
      have kd := fun (h : p.chk = 0) V => mdec_any p.enc V (by rw [enc_size h]; omega)
      have kw := fun (h : p.chk = 0) V => mwith_any p.enc x V (by rw [enc_size h]; omega)
      have kw2 := fun (h : (atP p x).chk = 0) V => mwith_any (atP p x).enc p.times V (by rw [enc_size h]; show p.text.size + 16 ≤ _; omega)
      have kd2 := fun (h : (atP p x).chk = 0) V => mdec_any (atP p x).enc V (by rw [enc_size h]; show p.text.size + 16 ≤ _; omega)
      have hd := fun (h : p.chk = 0) => md_enc h
      have hw := fun (h : p.chk = 0) => with_enc h x
      have hw2 := fun (h : p.chk = 0) (h' : (atP p x).chk = 0) => with_back h h'
      obtain ⟨c1, hc1⟩ : ∃ c, p.chk = c := ⟨_, rfl⟩
      obtain ⟨c2, hc2⟩ : ∃ c, mdE t = c := ⟨_, rfl⟩
      obtain ⟨c3, hc3⟩ : ∃ c, (atP p x).chk = c := ⟨_, rfl⟩
      obtain ⟨S, hS⟩ : ∃ S, p.enc = S := ⟨_, rfl⟩
      obtain ⟨U, hU⟩ : ∃ U, (atP p x).enc = U := ⟨_, rfl⟩
      obtain ⟨Q, hQ⟩ : ∃ Q, mdP t = Q := ⟨_, rfl⟩
      rw [hc1, hS] at ke kd hd kw hw
      rw [hc2, hQ] at kt hk hz
      rw [hQ] at kq
      rw [hc3, hU] at hw kw2 kd2
      rw [hc1, hc3, hU, hS] at hw2
      have HK := Lib.hid hk
      have HZ := Lib.hid hz
      clear h1 h2 hc1 hc2 hc3 hS hU hQ hk hz
      by_cases g1 : c1 = 0
      · subst g1
        obtain ⟨g1, g2⟩ := hd rfl
        replace kd := kd rfl
        replace kw := kw rfl
        obtain ⟨g3, g4⟩ := hw rfl
        rw [g1, g2] at kd
        rw [g3, g4] at kw
        have he := fun V => eqTP p p V
        rw [decide_eq_true rfl] at he
        have hex := fun V => eqTT x x V
        rw [decide_eq_true rfl] at hex
        unfold Mp.vals Ti.vals at *
        clear hd hw g1 g2 g3 g4
        by_cases g5 : c3 = 0
        · subst g5
          obtain ⟨g6, g7, g8, g9⟩ := hw2 rfl rfl
          replace kw2 := kw2 rfl
          replace kd2 := kd2 rfl
          rw [g6, g7] at kw2
          rw [g8, g9] at kd2
          unfold atP at kd2
          dsimp only at kd2
          have e1 : (S.toList != S.toList) = false := by simp
          have e2 : (p.text.toList != p.text.toList) = false := by simp
          have e3 : (p.mac != p.mac) = false := by simp
          clear hw2 g6 g7 g8 g9
          have ce0 := Blk.cell (HB.out.nth 1 rfl) 0 (v := .int .i64 p.mac) rfl
          have ce1 := Blk.cell (HB.out.nth 1 rfl) 1 (v := .int .i64 p.times.delta) rfl
          have ce2 := Blk.cell (HB.out.nth 1 rfl) 2 (v := .bool p.times.table) rfl
          have ce3 := Blk.cell (HB.out.nth 1 rfl) 3 (v := .bool p.times.frame) rfl
          have ce4 := Blk.cell (HB.out.nth 1 rfl) 4 (v := .int .i64 p.times.at_) rfl
          have ce5 := Blk.cell (HB.out.nth 1 rfl) 5 (v := .string p.text) rfl
          go_enter Try.func6, Try.ntmps6
          go_wp2_with fail
          (with_reducible refine (ke _).mono ?_); rintro e1 W1 ⟨rfl, hb1⟩
          have HB1 := Lib.hid (HB.out.below hb1)
          clear ke hb1 HB ce0 ce1 ce2 ce3 ce4 ce5
          go_wp2_with fail
          (with_reducible refine (kd _).mono ?_); rintro e1 W2 ⟨rfl, hb2⟩
          have HB2 := Lib.hid ((HB1.out.below hb2).new 25 p.vals)
          unfold Mp.vals at HB2
          clear kd hb2 HB1
          have q0 := Blk.cell (HB2.out.nth 0 rfl) 0 (v := .int .i64 p.mac) rfl
          have q1 := Blk.cell (HB2.out.nth 0 rfl) 1 (v := .int .i64 p.times.delta) rfl
          have q2 := Blk.cell (HB2.out.nth 0 rfl) 2 (v := .bool p.times.table) rfl
          have q3 := Blk.cell (HB2.out.nth 0 rfl) 3 (v := .bool p.times.frame) rfl
          have q4 := Blk.cell (HB2.out.nth 0 rfl) 4 (v := .int .i64 p.times.at_) rfl
          have q5 := Blk.cell (HB2.out.nth 0 rfl) 5 (v := .string p.text) rfl
          have y0 := Blk.cell (HB2.out.nth 2 rfl) 0 (v := .int .i64 p.mac) rfl
          have y1 := Blk.cell (HB2.out.nth 2 rfl) 1 (v := .int .i64 p.times.delta) rfl
          have y2 := Blk.cell (HB2.out.nth 2 rfl) 2 (v := .bool p.times.table) rfl
          have y3 := Blk.cell (HB2.out.nth 2 rfl) 3 (v := .bool p.times.frame) rfl
          have y4 := Blk.cell (HB2.out.nth 2 rfl) 4 (v := .int .i64 p.times.at_) rfl
          have y5 := Blk.cell (HB2.out.nth 2 rfl) 5 (v := .string p.text) rfl
          have z0 := Blk.cell (HB2.out.nth 1 rfl) 0 (v := .int .i64 x.delta) rfl
          have z1 := Blk.cell (HB2.out.nth 1 rfl) 1 (v := .bool x.table) rfl
          have z2 := Blk.cell (HB2.out.nth 1 rfl) 2 (v := .bool x.frame) rfl
          have z3 := Blk.cell (HB2.out.nth 1 rfl) 3 (v := .int .i64 x.at_) rfl
          go_wp2_with fail
          (with_reducible refine (kw _).mono ?_); rintro e1 W3 ⟨rfl, hb3⟩
          have HB3 := Lib.hid (HB2.out.below hb3)
          clear kw hb3 HB2 q0 q1 q2 q3 q4 q5 y0 y1 y2 y3 y4 y5 z0 z1 z2 z3
          have y0 := Blk.cell (HB3.out.nth 2 rfl) 0 (v := .int .i64 p.mac) rfl
          have y1 := Blk.cell (HB3.out.nth 2 rfl) 1 (v := .int .i64 p.times.delta) rfl
          have y2 := Blk.cell (HB3.out.nth 2 rfl) 2 (v := .bool p.times.table) rfl
          have y3 := Blk.cell (HB3.out.nth 2 rfl) 3 (v := .bool p.times.frame) rfl
          have y4 := Blk.cell (HB3.out.nth 2 rfl) 4 (v := .int .i64 p.times.at_) rfl
          have y5 := Blk.cell (HB3.out.nth 2 rfl) 5 (v := .string p.text) rfl
          go_wp2_with fail
          (with_reducible refine (kw2 _).mono ?_); rintro e1 W4 ⟨rfl, hb4⟩
          have HB4 := Lib.hid (HB3.out.below hb4)
          clear kw2 hb4 HB3 y0 y1 y2 y3 y4 y5
          go_wp2_with fail
          (with_reducible refine (kd2 _).mono ?_); rintro e1 W6 ⟨rfl, hb5⟩
          have HB7 := Lib.hid ((HB4.out.below hb5).new 25 #[.int .i64 p.mac, .int .i64 x.delta, .bool x.table, .bool x.frame, .int .i64 x.at_, .string p.text])
          clear kd2 hb5 HB4
          have q0 := Blk.cell (HB7.out.nth 0 rfl) 0 (v := .int .i64 p.mac) rfl
          have q1 := Blk.cell (HB7.out.nth 0 rfl) 1 (v := .int .i64 x.delta) rfl
          have q2 := Blk.cell (HB7.out.nth 0 rfl) 2 (v := .bool x.table) rfl
          have q3 := Blk.cell (HB7.out.nth 0 rfl) 3 (v := .bool x.frame) rfl
          have q4 := Blk.cell (HB7.out.nth 0 rfl) 4 (v := .int .i64 x.at_) rfl
          have q5 := Blk.cell (HB7.out.nth 0 rfl) 5 (v := .string p.text) rfl
          have y0 := Blk.cell (HB7.out.nth 3 rfl) 0 (v := .int .i64 p.mac) rfl
          have y1 := Blk.cell (HB7.out.nth 3 rfl) 1 (v := .int .i64 p.times.delta) rfl
          have y2 := Blk.cell (HB7.out.nth 3 rfl) 2 (v := .bool p.times.table) rfl
          have y3 := Blk.cell (HB7.out.nth 3 rfl) 3 (v := .bool p.times.frame) rfl
          have y4 := Blk.cell (HB7.out.nth 3 rfl) 4 (v := .int .i64 p.times.at_) rfl
          have y5 := Blk.cell (HB7.out.nth 3 rfl) 5 (v := .string p.text) rfl
          have z0 := Blk.cell (HB7.out.nth 2 rfl) 0 (v := .int .i64 x.delta) rfl
          have z1 := Blk.cell (HB7.out.nth 2 rfl) 1 (v := .bool x.table) rfl
          have z2 := Blk.cell (HB7.out.nth 2 rfl) 2 (v := .bool x.frame) rfl
          have z3 := Blk.cell (HB7.out.nth 2 rfl) 3 (v := .int .i64 x.at_) rfl
          go_wp2_with fail
          clear q0 q1 q2 q3 q4 q5 y0 y1 y2 y3 y4 y5 z0 z1 z2 z3 he hex
          (with_reducible refine (kt _).mono ?_); rintro e1 W5 ⟨rfl, hb5⟩
          have HB5 := Lib.hid ((HB7.out.below hb5).new 25 Q.vals)
          unfold Mp.vals at HB5
          clear hb5 kt
          have d0 := Blk.cell (HB5.out.nth 0 rfl) 0 (v := .int .i64 Q.mac) rfl
          have d1 := Blk.cell (HB5.out.nth 0 rfl) 1 (v := .int .i64 Q.times.delta) rfl
          have d2 := Blk.cell (HB5.out.nth 0 rfl) 2 (v := .bool Q.times.table) rfl
          have d3 := Blk.cell (HB5.out.nth 0 rfl) 3 (v := .bool Q.times.frame) rfl
          have d4 := Blk.cell (HB5.out.nth 0 rfl) 4 (v := .int .i64 Q.times.at_) rfl
          have d5 := Blk.cell (HB5.out.nth 0 rfl) 5 (v := .string Q.text) rfl
          by_cases g2 : c2 = 0
          · have g2' := HK.out g2
            obtain ⟨g3, g4⟩ := g2'
            subst g2
            rw [g3, g4] at kq
            have hee : (t.toList == t.toList) = true := by simp
            clear g3 g4 HK
            go_wp2_with fail
            (with_reducible refine (kq _).mono ?_); rintro e1 W6 ⟨rfl, hb6⟩
            have HB6 := Lib.hid (HB5.out.below hb6)
            have hbe := HB6.out.be
            clear hb6 kq HB5 d0 d1 d2 d3 d4 d5
            go_wp2_with fail
            (with_reducible refine (kaw _).mono ?_); rintro e1 W9 ⟨rfl, hb9⟩
            have hE := hbe.trans (hb9.mono hbe.size)
            go_wp2_with fail
            go_ret
            exact ⟨rfl, hE⟩
          · have g2' := HZ.out g2
            subst g2'
            have t5 : (c2 != 0) = true := by simpa using g2
            have hbe := HB5.out.be
            have hz := fun V => eqTP zeroP zeroP V
            rw [decide_eq_true rfl] at hz
            unfold Mp.vals zeroP zeroT at *
            dsimp only at *
            clear HK HZ g2 kq
            go_wp2_with fail
            (with_reducible refine (kaw _).mono ?_); rintro e1 W9 ⟨rfl, hb9⟩
            have hE := hbe.trans (hb9.mono hbe.size)
            go_wp2_with fail
            go_ret
            exact ⟨rfl, hE⟩
        · have t5 : (c3 == 0) = false := by simpa using g5
          clear hw2 kw2 kd2 g5 hex
          have ce0 := Blk.cell (HB.out.nth 1 rfl) 0 (v := .int .i64 p.mac) rfl
          have ce1 := Blk.cell (HB.out.nth 1 rfl) 1 (v := .int .i64 p.times.delta) rfl
          have ce2 := Blk.cell (HB.out.nth 1 rfl) 2 (v := .bool p.times.table) rfl
          have ce3 := Blk.cell (HB.out.nth 1 rfl) 3 (v := .bool p.times.frame) rfl
          have ce4 := Blk.cell (HB.out.nth 1 rfl) 4 (v := .int .i64 p.times.at_) rfl
          have ce5 := Blk.cell (HB.out.nth 1 rfl) 5 (v := .string p.text) rfl
          go_enter Try.func6, Try.ntmps6
          go_wp2_with fail
          (with_reducible refine (ke _).mono ?_); rintro e1 W1 ⟨rfl, hb1⟩
          have HB1 := Lib.hid (HB.out.below hb1)
          clear ke hb1 HB ce0 ce1 ce2 ce3 ce4 ce5
          go_wp2_with fail
          (with_reducible refine (kd _).mono ?_); rintro e1 W2 ⟨rfl, hb2⟩
          have HB2 := Lib.hid ((HB1.out.below hb2).new 25 p.vals)
          unfold Mp.vals at HB2
          clear kd hb2 HB1
          have q0 := Blk.cell (HB2.out.nth 0 rfl) 0 (v := .int .i64 p.mac) rfl
          have q1 := Blk.cell (HB2.out.nth 0 rfl) 1 (v := .int .i64 p.times.delta) rfl
          have q2 := Blk.cell (HB2.out.nth 0 rfl) 2 (v := .bool p.times.table) rfl
          have q3 := Blk.cell (HB2.out.nth 0 rfl) 3 (v := .bool p.times.frame) rfl
          have q4 := Blk.cell (HB2.out.nth 0 rfl) 4 (v := .int .i64 p.times.at_) rfl
          have q5 := Blk.cell (HB2.out.nth 0 rfl) 5 (v := .string p.text) rfl
          have y0 := Blk.cell (HB2.out.nth 2 rfl) 0 (v := .int .i64 p.mac) rfl
          have y1 := Blk.cell (HB2.out.nth 2 rfl) 1 (v := .int .i64 p.times.delta) rfl
          have y2 := Blk.cell (HB2.out.nth 2 rfl) 2 (v := .bool p.times.table) rfl
          have y3 := Blk.cell (HB2.out.nth 2 rfl) 3 (v := .bool p.times.frame) rfl
          have y4 := Blk.cell (HB2.out.nth 2 rfl) 4 (v := .int .i64 p.times.at_) rfl
          have y5 := Blk.cell (HB2.out.nth 2 rfl) 5 (v := .string p.text) rfl
          have z0 := Blk.cell (HB2.out.nth 1 rfl) 0 (v := .int .i64 x.delta) rfl
          have z1 := Blk.cell (HB2.out.nth 1 rfl) 1 (v := .bool x.table) rfl
          have z2 := Blk.cell (HB2.out.nth 1 rfl) 2 (v := .bool x.frame) rfl
          have z3 := Blk.cell (HB2.out.nth 1 rfl) 3 (v := .int .i64 x.at_) rfl
          go_wp2_with fail
          (with_reducible refine (kw _).mono ?_); rintro e1 W3 ⟨rfl, hb3⟩
          have HB3 := Lib.hid (HB2.out.below hb3)
          clear kw hb3 HB2 q0 q1 q2 q3 q4 q5 y0 y1 y2 y3 y4 y5 z0 z1 z2 z3 he
          go_wp2_with fail
          (with_reducible refine (kt _).mono ?_); rintro e1 W5 ⟨rfl, hb5⟩
          have HB5 := Lib.hid ((HB3.out.below hb5).new 25 Q.vals)
          unfold Mp.vals at HB5
          clear hb5 kt
          have d0 := Blk.cell (HB5.out.nth 0 rfl) 0 (v := .int .i64 Q.mac) rfl
          have d1 := Blk.cell (HB5.out.nth 0 rfl) 1 (v := .int .i64 Q.times.delta) rfl
          have d2 := Blk.cell (HB5.out.nth 0 rfl) 2 (v := .bool Q.times.table) rfl
          have d3 := Blk.cell (HB5.out.nth 0 rfl) 3 (v := .bool Q.times.frame) rfl
          have d4 := Blk.cell (HB5.out.nth 0 rfl) 4 (v := .int .i64 Q.times.at_) rfl
          have d5 := Blk.cell (HB5.out.nth 0 rfl) 5 (v := .string Q.text) rfl
          by_cases g2 : c2 = 0
          · have g2' := HK.out g2
            obtain ⟨g3, g4⟩ := g2'
            subst g2
            rw [g3, g4] at kq
            have hee : (t.toList == t.toList) = true := by simp
            clear g3 g4 HK
            go_wp2_with fail
            (with_reducible refine (kq _).mono ?_); rintro e1 W6 ⟨rfl, hb6⟩
            have HB6 := Lib.hid (HB5.out.below hb6)
            have hbe := HB6.out.be
            clear hb6 kq HB5 d0 d1 d2 d3 d4 d5
            go_wp2_with fail
            (with_reducible refine (kaw _).mono ?_); rintro e1 W9 ⟨rfl, hb9⟩
            have hE := hbe.trans (hb9.mono hbe.size)
            go_wp2_with fail
            go_ret
            exact ⟨rfl, hE⟩
          · have g2' := HZ.out g2
            subst g2'
            have t5 : (c2 != 0) = true := by simpa using g2
            have hbe := HB5.out.be
            have hz := fun V => eqTP zeroP zeroP V
            rw [decide_eq_true rfl] at hz
            unfold Mp.vals zeroP zeroT at *
            dsimp only at *
            clear HK HZ g2 kq
            go_wp2_with fail
            (with_reducible refine (kaw _).mono ?_); rintro e1 W9 ⟨rfl, hb9⟩
            have hE := hbe.trans (hb9.mono hbe.size)
            go_wp2_with fail
            go_ret
            exact ⟨rfl, hE⟩
      · have t3 : (c1 == 0) = false := by simpa using g1
        unfold Mp.vals Ti.vals at *
        clear kd hd kw hw kw2 kd2 hw2 g1
        have ce0 := Blk.cell (HB.out.nth 1 rfl) 0 (v := .int .i64 p.mac) rfl
        have ce1 := Blk.cell (HB.out.nth 1 rfl) 1 (v := .int .i64 p.times.delta) rfl
        have ce2 := Blk.cell (HB.out.nth 1 rfl) 2 (v := .bool p.times.table) rfl
        have ce3 := Blk.cell (HB.out.nth 1 rfl) 3 (v := .bool p.times.frame) rfl
        have ce4 := Blk.cell (HB.out.nth 1 rfl) 4 (v := .int .i64 p.times.at_) rfl
        have ce5 := Blk.cell (HB.out.nth 1 rfl) 5 (v := .string p.text) rfl
        go_enter Try.func6, Try.ntmps6
        go_wp2_with fail
        (with_reducible refine (ke _).mono ?_); rintro e1 W1 ⟨rfl, hb1⟩
        have HB1 := Lib.hid (HB.out.below hb1)
        clear ke hb1 HB ce0 ce1 ce2 ce3 ce4 ce5
        go_wp2_with fail
        (with_reducible refine (kt _).mono ?_); rintro e1 W5 ⟨rfl, hb5⟩
        have HB5 := Lib.hid ((HB1.out.below hb5).new 25 Q.vals)
        unfold Mp.vals at HB5
        clear hb5 kt
        have d0 := Blk.cell (HB5.out.nth 0 rfl) 0 (v := .int .i64 Q.mac) rfl
        have d1 := Blk.cell (HB5.out.nth 0 rfl) 1 (v := .int .i64 Q.times.delta) rfl
        have d2 := Blk.cell (HB5.out.nth 0 rfl) 2 (v := .bool Q.times.table) rfl
        have d3 := Blk.cell (HB5.out.nth 0 rfl) 3 (v := .bool Q.times.frame) rfl
        have d4 := Blk.cell (HB5.out.nth 0 rfl) 4 (v := .int .i64 Q.times.at_) rfl
        have d5 := Blk.cell (HB5.out.nth 0 rfl) 5 (v := .string Q.text) rfl
        by_cases g2 : c2 = 0
        · have g2' := HK.out g2
          obtain ⟨g3, g4⟩ := g2'
          subst g2
          rw [g3, g4] at kq
          have hee : (t.toList == t.toList) = true := by simp
          clear g3 g4 HK
          go_wp2_with fail
          (with_reducible refine (kq _).mono ?_); rintro e1 W6 ⟨rfl, hb6⟩
          have HB6 := Lib.hid (HB5.out.below hb6)
          have hbe := HB6.out.be
          clear hb6 kq HB5 d0 d1 d2 d3 d4 d5
          go_wp2_with fail
          (with_reducible refine (kaw _).mono ?_); rintro e1 W9 ⟨rfl, hb9⟩
          have hE := hbe.trans (hb9.mono hbe.size)
          go_wp2_with fail
          go_ret
          exact ⟨rfl, hE⟩
        · have g2' := HZ.out g2
          subst g2'
          have t5 : (c2 != 0) = true := by simpa using g2
          have hbe := HB5.out.be
          have hz := fun V => eqTP zeroP zeroP V
          rw [decide_eq_true rfl] at hz
          unfold Mp.vals zeroP zeroT at *
          dsimp only at *
          clear HK HZ g2 kq
          go_wp2_with fail
          (with_reducible refine (kaw _).mono ?_); rintro e1 W9 ⟨rfl, hb9⟩
          have hE := hbe.trans (hb9.mono hbe.size)
          go_wp2_with fail
          go_ret
          exact ⟨rfl, hE⟩
end Go.Proofs.Ytfadhgbhdoddpaa.MpU
