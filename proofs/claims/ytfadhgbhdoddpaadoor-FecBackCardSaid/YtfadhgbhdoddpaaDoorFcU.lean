/- FecBack: the walk. -/
import Derived.Test.YtfadhgbhdoddpaaDoorFcW
namespace Go.Proofs.YtfadhgbhdoddpaaDoor.FcU
open Go Go.RowKit Go.Proofs.YtfadhgbhdoddpaaDoor.Q Go.Proofs.YtfadhgbhdoddpaaDoor.Mem Go.Proofs.YtfadhgbhdoddpaaDoor.Rg Go.Proofs.YtfadhgbhdoddpaaDoor.Ap Go.Proofs.YtfadhgbhdoddpaaDoor.St Go.Proofs.YtfadhgbhdoddpaaDoor.BiP Go.Proofs.YtfadhgbhdoddpaaDoor.SeA Go.Proofs.YtfadhgbhdoddpaaDoor.SeC Go.Proofs.YtfadhgbhdoddpaaDoor.SeE Go.Proofs.YtfadhgbhdoddpaaDoor.SeEq Go.Proofs.YtfadhgbhdoddpaaDoor.SeI Go.Proofs.YtfadhgbhdoddpaaDoor.SeP Go.Proofs.YtfadhgbhdoddpaaDoor.TmA Go.Proofs.YtfadhgbhdoddpaaDoor.TmB Go.Proofs.YtfadhgbhdoddpaaDoor.Tab Go.Proofs.YtfadhgbhdoddpaaDoor.FcA Go.Proofs.YtfadhgbhdoddpaaDoor.FcB Go.Proofs.YtfadhgbhdoddpaaDoor.FcC Go.Proofs.YtfadhgbhdoddpaaDoor.FcD Go.Proofs.YtfadhgbhdoddpaaDoor.FcP Go.Proofs.YtfadhgbhdoddpaaDoor.FcW

set_option maxRecDepth 100000
set_option maxHeartbeats 1600000 in
theorem back_any (p : Fp) (t : ByteArray) (w : World) (hT : Tab 0 w) : Calls Tryd.prog 5 #[.agg p.vals, .string t] w fun e w' => e = .returned (.bool true) ∧ Below w.heap.size w w' := by
  have kaw := fun V (h : Tab 0 V) => awake_any V h
  have HB := Lib.hid (bk1 w 25 p.vals)
  have HT := Lib.hid (hT.be HB.out.be)
  by_cases h1 : 5000 < p.text.size
  · have t1 : decide (5000 < (p.text.size : Int)) = true := by simp; omega
    unfold Fp.vals at *
    have hbe := HB.out.be
    clear h1 hT
    go_enter Tryd.func5, Tryd.ntmps5
    go_wp2_with fail
    (with_reducible refine (kaw _ (HT.out)).mono ?_); rintro e1 W9 ⟨rfl, hb9⟩
    have hE := hbe.trans (hb9.mono hbe.size)
    go_wp2_with fail
    go_ret
    exact ⟨rfl, hE⟩
  · have t1 : decide (5000 < (p.text.size : Int)) = false := by simp; omega
    by_cases h2 : 5000 < t.size
    · have t2 : decide (5000 < (t.size : Int)) = true := by simp; omega
      unfold Fp.vals at *
      have hbe := HB.out.be
      clear h1 h2 hT
      go_enter Tryd.func5, Tryd.ntmps5
      go_wp2_with fail
      (with_reducible refine (kaw _ (HT.out)).mono ?_); rintro e1 W9 ⟨rfl, hb9⟩
      have hE := hbe.trans (hb9.mono hbe.size)
      go_wp2_with fail
      go_ret
      exact ⟨rfl, hE⟩
    · have t2 : decide (5000 < (t.size : Int)) = false := by simp; omega
      have ke := fun V (h : Tab 0 V) => fenc_any p V h
      have kt := fun V (h : Tab 0 V) => fdec_any t V h (by omega)
      have kq := fun V (h : Tab 0 V) => fenc_any (fdP t) V h
      have hk := @enc_fd t
      have hz : fdE t ≠ 0 → fdP t = zeroP := fun h => (fd_zero rfl h).2
      have kd := fun (h : p.chk = 0) V (h2 : Tab 0 V) => fdec_any p.enc V h2 (by rw [enc_size h]; omega)
      have hd := fun (h : p.chk = 0) => fd_enc h
      obtain ⟨c1, hc1⟩ : ∃ c, p.chk = c := ⟨_, rfl⟩
      obtain ⟨c2, hc2⟩ : ∃ c, fdE t = c := ⟨_, rfl⟩
      obtain ⟨S, hS⟩ : ∃ S, p.enc = S := ⟨_, rfl⟩
      obtain ⟨Q, hQ⟩ : ∃ Q, fdP t = Q := ⟨_, rfl⟩
      rw [hc1, hS] at ke kd hd
      rw [hc2, hQ] at kt hk hz
      rw [hQ] at kq
      have HK := Lib.hid hk
      have HZ := Lib.hid hz
      clear h1 h2 hT hc1 hc2 hS hQ hk hz
      by_cases g1 : c1 = 0
      · subst g1
        obtain ⟨g1, g2⟩ := hd rfl
        replace kd := kd rfl
        rw [g1, g2] at kd
        have he := fun V => eqTP p p V
        rw [decide_eq_true rfl] at he
        unfold Fp.vals at *
        clear hd g1 g2
        have c0 := Blk.cell (HB.out.nth 0 rfl) 0 (v := .int .i64 p.pad) rfl
        have c1 := Blk.cell (HB.out.nth 0 rfl) 1 (v := .int .i64 p.number) rfl
        have c2 := Blk.cell (HB.out.nth 0 rfl) 2 (v := .int .i64 p.last) rfl
        have c3 := Blk.cell (HB.out.nth 0 rfl) 3 (v := .int .i64 p.times.delta) rfl
        have c4 := Blk.cell (HB.out.nth 0 rfl) 4 (v := .bool p.times.table) rfl
        have c5 := Blk.cell (HB.out.nth 0 rfl) 5 (v := .bool p.times.frame) rfl
        have c6 := Blk.cell (HB.out.nth 0 rfl) 6 (v := .int .i64 p.times.at_) rfl
        have c7 := Blk.cell (HB.out.nth 0 rfl) 7 (v := .string p.text) rfl
        go_enter Tryd.func5, Tryd.ntmps5
        go_wp2_with fail
        (with_reducible refine (ke _ HT.out).mono ?_); rintro e1 W1 ⟨rfl, hb1⟩
        have HB1 := Lib.hid (HB.out.below hb1)
        have HT1 := Lib.hid (HT.out.be hb1)
        clear ke hb1 HB HT c0 c1 c2 c3 c4 c5 c6 c7
        go_wp2_with fail
        (with_reducible refine (kd _ HT1.out).mono ?_); rintro e1 W2 ⟨rfl, hb2⟩
        have HB2 := Lib.hid ((HB1.out.below hb2).new 25 p.vals)
        have HT2 := Lib.hid ((HT1.out.be hb2).be ((Below.refl _ _).alloc (Nat.le_refl _) (.cells p.vals 25)))
        unfold Fp.vals at HB2 HT2
        clear kd hb2 HB1 HT1
        have x0 := Blk.cell (HB2.out.nth 0 rfl) 0 (v := .int .i64 p.pad) rfl
        have x1 := Blk.cell (HB2.out.nth 0 rfl) 1 (v := .int .i64 p.number) rfl
        have x2 := Blk.cell (HB2.out.nth 0 rfl) 2 (v := .int .i64 p.last) rfl
        have x3 := Blk.cell (HB2.out.nth 0 rfl) 3 (v := .int .i64 p.times.delta) rfl
        have x4 := Blk.cell (HB2.out.nth 0 rfl) 4 (v := .bool p.times.table) rfl
        have x5 := Blk.cell (HB2.out.nth 0 rfl) 5 (v := .bool p.times.frame) rfl
        have x6 := Blk.cell (HB2.out.nth 0 rfl) 6 (v := .int .i64 p.times.at_) rfl
        have x7 := Blk.cell (HB2.out.nth 0 rfl) 7 (v := .string p.text) rfl
        have y0 := Blk.cell (HB2.out.nth 1 rfl) 0 (v := .int .i64 p.pad) rfl
        have y1 := Blk.cell (HB2.out.nth 1 rfl) 1 (v := .int .i64 p.number) rfl
        have y2 := Blk.cell (HB2.out.nth 1 rfl) 2 (v := .int .i64 p.last) rfl
        have y3 := Blk.cell (HB2.out.nth 1 rfl) 3 (v := .int .i64 p.times.delta) rfl
        have y4 := Blk.cell (HB2.out.nth 1 rfl) 4 (v := .bool p.times.table) rfl
        have y5 := Blk.cell (HB2.out.nth 1 rfl) 5 (v := .bool p.times.frame) rfl
        have y6 := Blk.cell (HB2.out.nth 1 rfl) 6 (v := .int .i64 p.times.at_) rfl
        have y7 := Blk.cell (HB2.out.nth 1 rfl) 7 (v := .string p.text) rfl
        go_wp2_with fail
        clear x0 x1 x2 x3 x4 x5 x6 x7 y0 y1 y2 y3 y4 y5 y6 y7 he
        (with_reducible refine (kt _ HT2.out).mono ?_); rintro e1 W5 ⟨rfl, hb5⟩
        have HB5 := Lib.hid ((HB2.out.below hb5).new 25 Q.vals)
        have HT5 := Lib.hid ((HT2.out.be hb5).be ((Below.refl _ _).alloc (Nat.le_refl _) (.cells Q.vals 25)))
        unfold Fp.vals at HB5 HT5
        clear hb5 kt
        have d0 := Blk.cell (HB5.out.nth 0 rfl) 0 (v := .int .i64 Q.pad) rfl
        have d1 := Blk.cell (HB5.out.nth 0 rfl) 1 (v := .int .i64 Q.number) rfl
        have d2 := Blk.cell (HB5.out.nth 0 rfl) 2 (v := .int .i64 Q.last) rfl
        have d3 := Blk.cell (HB5.out.nth 0 rfl) 3 (v := .int .i64 Q.times.delta) rfl
        have d4 := Blk.cell (HB5.out.nth 0 rfl) 4 (v := .bool Q.times.table) rfl
        have d5 := Blk.cell (HB5.out.nth 0 rfl) 5 (v := .bool Q.times.frame) rfl
        have d6 := Blk.cell (HB5.out.nth 0 rfl) 6 (v := .int .i64 Q.times.at_) rfl
        have d7 := Blk.cell (HB5.out.nth 0 rfl) 7 (v := .string Q.text) rfl
        by_cases g2 : c2 = 0
        · have g2' := HK.out g2
          obtain ⟨g3, g4⟩ := g2'
          subst g2
          rw [g3, g4] at kq
          have hee : (t.toList == t.toList) = true := by simp
          clear g3 g4 HK
          go_wp2_with fail
          (with_reducible refine (kq _ HT5.out).mono ?_); rintro e1 W6 ⟨rfl, hb6⟩
          have HB6 := Lib.hid (HB5.out.below hb6)
          have HT6 := Lib.hid (HT5.out.be hb6)
          have hbe := HB6.out.be
          clear hb6 kq HT5 HB5 d0 d1 d2 d3 d4 d5 d6 d7
          go_wp2_with fail
          (with_reducible refine (kaw _ (HT6.out)).mono ?_); rintro e1 W9 ⟨rfl, hb9⟩
          have hE := hbe.trans (hb9.mono hbe.size)
          go_wp2_with fail
          go_ret
          exact ⟨rfl, hE⟩
        · have g2' := HZ.out g2
          subst g2'
          have t5 : (c2 != 0) = true := by simpa using g2
          have hbe := HB5.out.be
          have hz := fun V => eqTP zeroP zeroP V
          rw [decide_eq_true rfl] at hz
          unfold Fp.vals zeroP zeroT at *
          dsimp only at *
          clear HK HZ g2 kq
          go_wp2_with fail
          (with_reducible refine (kaw _ (HT5.out)).mono ?_); rintro e1 W9 ⟨rfl, hb9⟩
          have hE := hbe.trans (hb9.mono hbe.size)
          go_wp2_with fail
          go_ret
          exact ⟨rfl, hE⟩
      · have t3 : (c1 == 0) = false := by simpa using g1
        unfold Fp.vals at *
        clear kd hd g1
        have c0 := Blk.cell (HB.out.nth 0 rfl) 0 (v := .int .i64 p.pad) rfl
        have c1 := Blk.cell (HB.out.nth 0 rfl) 1 (v := .int .i64 p.number) rfl
        have c2 := Blk.cell (HB.out.nth 0 rfl) 2 (v := .int .i64 p.last) rfl
        have c3 := Blk.cell (HB.out.nth 0 rfl) 3 (v := .int .i64 p.times.delta) rfl
        have c4 := Blk.cell (HB.out.nth 0 rfl) 4 (v := .bool p.times.table) rfl
        have c5 := Blk.cell (HB.out.nth 0 rfl) 5 (v := .bool p.times.frame) rfl
        have c6 := Blk.cell (HB.out.nth 0 rfl) 6 (v := .int .i64 p.times.at_) rfl
        have c7 := Blk.cell (HB.out.nth 0 rfl) 7 (v := .string p.text) rfl
        go_enter Tryd.func5, Tryd.ntmps5
        go_wp2_with fail
        (with_reducible refine (ke _ HT.out).mono ?_); rintro e1 W1 ⟨rfl, hb1⟩
        have HB1 := Lib.hid (HB.out.below hb1)
        have HT1 := Lib.hid (HT.out.be hb1)
        clear ke hb1 HB HT c0 c1 c2 c3 c4 c5 c6 c7
        go_wp2_with fail
        (with_reducible refine (kt _ HT1.out).mono ?_); rintro e1 W5 ⟨rfl, hb5⟩
        have HB5 := Lib.hid ((HB1.out.below hb5).new 25 Q.vals)
        have HT5 := Lib.hid ((HT1.out.be hb5).be ((Below.refl _ _).alloc (Nat.le_refl _) (.cells Q.vals 25)))
        unfold Fp.vals at HB5 HT5
        clear hb5 kt
        have d0 := Blk.cell (HB5.out.nth 0 rfl) 0 (v := .int .i64 Q.pad) rfl
        have d1 := Blk.cell (HB5.out.nth 0 rfl) 1 (v := .int .i64 Q.number) rfl
        have d2 := Blk.cell (HB5.out.nth 0 rfl) 2 (v := .int .i64 Q.last) rfl
        have d3 := Blk.cell (HB5.out.nth 0 rfl) 3 (v := .int .i64 Q.times.delta) rfl
        have d4 := Blk.cell (HB5.out.nth 0 rfl) 4 (v := .bool Q.times.table) rfl
        have d5 := Blk.cell (HB5.out.nth 0 rfl) 5 (v := .bool Q.times.frame) rfl
        have d6 := Blk.cell (HB5.out.nth 0 rfl) 6 (v := .int .i64 Q.times.at_) rfl
        have d7 := Blk.cell (HB5.out.nth 0 rfl) 7 (v := .string Q.text) rfl
        by_cases g2 : c2 = 0
        · have g2' := HK.out g2
          obtain ⟨g3, g4⟩ := g2'
          subst g2
          rw [g3, g4] at kq
          have hee : (t.toList == t.toList) = true := by simp
          clear g3 g4 HK
          go_wp2_with fail
          (with_reducible refine (kq _ HT5.out).mono ?_); rintro e1 W6 ⟨rfl, hb6⟩
          have HB6 := Lib.hid (HB5.out.below hb6)
          have HT6 := Lib.hid (HT5.out.be hb6)
          have hbe := HB6.out.be
          clear hb6 kq HT5 HB5 d0 d1 d2 d3 d4 d5 d6 d7
          go_wp2_with fail
          (with_reducible refine (kaw _ (HT6.out)).mono ?_); rintro e1 W9 ⟨rfl, hb9⟩
          have hE := hbe.trans (hb9.mono hbe.size)
          go_wp2_with fail
          go_ret
          exact ⟨rfl, hE⟩
        · have g2' := HZ.out g2
          subst g2'
          have t5 : (c2 != 0) = true := by simpa using g2
          have hbe := HB5.out.be
          have hz := fun V => eqTP zeroP zeroP V
          rw [decide_eq_true rfl] at hz
          unfold Fp.vals zeroP zeroT at *
          dsimp only at *
          clear HK HZ g2 kq
          go_wp2_with fail
          (with_reducible refine (kaw _ (HT5.out)).mono ?_); rintro e1 W9 ⟨rfl, hb9⟩
          have hE := hbe.trans (hb9.mono hbe.size)
          go_wp2_with fail
          go_ret
          exact ⟨rfl, hE⟩
end Go.Proofs.YtfadhgbhdoddpaaDoor.FcU
