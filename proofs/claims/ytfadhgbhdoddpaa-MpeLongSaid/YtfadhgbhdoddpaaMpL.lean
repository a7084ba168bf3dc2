/- MpeLong: the walk. -/
import Derived.Test.YtfadhgbhdoddpaaMpW
namespace Go.Proofs.Ytfadhgbhdoddpaa.MpL
open Go Go.RowKit Go.Proofs.Ytfadhgbhdoddpaa.Q Go.Proofs.Ytfadhgbhdoddpaa.Mem Go.Proofs.Ytfadhgbhdoddpaa.Rg Go.Proofs.Ytfadhgbhdoddpaa.Ap Go.Proofs.Ytfadhgbhdoddpaa.St Go.Proofs.Ytfadhgbhdoddpaa.BiP Go.Proofs.Ytfadhgbhdoddpaa.CrP Go.Proofs.Ytfadhgbhdoddpaa.CrC Go.Proofs.Ytfadhgbhdoddpaa.SeA Go.Proofs.Ytfadhgbhdoddpaa.SeC Go.Proofs.Ytfadhgbhdoddpaa.SeE Go.Proofs.Ytfadhgbhdoddpaa.SeEq Go.Proofs.Ytfadhgbhdoddpaa.SeI Go.Proofs.Ytfadhgbhdoddpaa.SeP Go.Proofs.Ytfadhgbhdoddpaa.TmA Go.Proofs.Ytfadhgbhdoddpaa.TmB Go.Proofs.Ytfadhgbhdoddpaa.DgC Go.Proofs.Ytfadhgbhdoddpaa.MpA Go.Proofs.Ytfadhgbhdoddpaa.MpC Go.Proofs.Ytfadhgbhdoddpaa.MpD Go.Proofs.Ytfadhgbhdoddpaa.MpP Go.Proofs.Ytfadhgbhdoddpaa.MpW

theorem with_enc {p : Mp} (h : p.chk = 0) (x : Ti) : mwE p.enc x = (atP p x).chk ∧ mwS p.enc x = (atP p x).enc := by
  obtain ⟨h1, h2⟩ := md_enc h
  exact ⟨by rw [show mwE p.enc x = (atP (mdP p.enc) x).chk from if_pos h1, h2], by rw [show mwS p.enc x = (atP (mdP p.enc) x).enc from if_pos h1, h2]⟩
theorem at_chk {p : Mp} (h : p.chk = 0) (x : Ti) : (atP p x).chk = 0 ∨ ((atP p x).chk = 15 ∧ (atP p x).enc = nob) := by
  obtain ⟨g1, g2, g3⟩ := mchk_zero h
  by_cases hx : x.ok
  · left
    exact (if_pos (And.intro (show (atP p x).ok from g1) hx)).trans g3
  · right
    have : (atP p x).chk = 15 := by unfold Mp.chk; rw [if_neg (fun h => hx h.2)]
    exact ⟨this, by unfold Mp.enc; rw [if_neg (by rw [this]; decide)]⟩
theorem enc_mid {p : Mp} (h : p.chk = 0) : p.enc.extract 12 (p.text.size + 12) = p.text := by
  obtain ⟨c, h1, h2⟩ := enc_bl h
  apply bl_inj
  rw [ext_bl, h1, ← List.append_assoc, List.drop_append_of_le_length (by rw [List.length_append, tm_len, front_len]; omega), List.drop_of_length_le (by rw [List.length_append, tm_len, front_len]; omega), List.nil_append, List.take_append_of_le_length (by rw [bl_len]; omega), List.take_of_length_le (by rw [bl_len]; omega)]
theorem enc_front {p : Mp} (h : p.chk = 0) : bl (p.enc.extract 0 8) = frontL p.sec := by
  obtain ⟨c, h1, h2⟩ := enc_bl h
  rw [ext_bl, h1, List.drop_zero, List.take_append_of_le_length (by rw [front_len]; omega), List.take_of_length_le (by rw [front_len]; omega)]
theorem at_front {p : Mp} (h : p.chk = 0) {x : Ti} (h' : (atP p x).chk = 0) : (atP p x).enc.extract 0 8 = p.enc.extract 0 8 := by
  apply bl_inj
  rw [enc_front h, enc_front h']
  unfold frontL
  rw [sec_size (mchk_zero h).2.1, sec_size (mchk_zero h').2.1]
  rfl
theorem at_same {p : Mp} (h : p.chk = 0) {x : Ti} (h' : (atP p x).chk = 0) : (atP p x).enc = p.enc ↔ x = p.times := by
  rw [enc_inj h' h]
  constructor
  · intro e
    have := congrArg Mp.times e
    exact this
  · intro e
    subst e
    rfl
set_option maxRecDepth 100000
set_option maxHeartbeats 3200000 in
theorem long_any (p : Mp) (x : Ti) (w : World) : Calls Try.prog 7 #[.agg p.vals, .agg x.vals] w fun e w' => e = .returned (.bool true) ∧ Below w.heap.size w w' := by
  have kaw := fun V => awake_any V
  have HB := Lib.hid (bk2 w 25 23 p.vals x.vals)
  by_cases h1 : 5000 < p.text.size
  · have t1 : decide (5000 < (p.text.size : Int)) = true := by simp; omega
    unfold Mp.vals Ti.vals at *
    have hbe := HB.out.be
    clear h1
    go_enter Try.func7, Try.ntmps7
    go_wp2_with fail
    (with_reducible refine (kaw _).mono ?_); rintro e1 W9 ⟨rfl, hb9⟩
    have hE := hbe.trans (hb9.mono hbe.size)
    go_wp2_with fail
    go_ret
    exact ⟨rfl, hE⟩
  · have t1 : decide (5000 < (p.text.size : Int)) = false := by simp; omega
    have ke := fun V => menc_any p V (by omega)
    by_cases hc : p.chk = 0
    · have kw := fun V => mwith_any p.enc x V (by rw [enc_size hc]; omega)
      obtain ⟨g1, g2⟩ := with_enc hc x
      rw [g1, g2] at kw
      have hsz := enc_size hc
      have hmid := enc_mid hc
      have hat := at_chk hc x
      have hU := fun (h' : (atP p x).chk = 0) => And.intro (enc_size h') (And.intro (enc_mid h') (And.intro (at_front hc h') (at_same hc h')))
      rw [hc] at ke
      obtain ⟨c3, hc3⟩ : ∃ c, (atP p x).chk = c := ⟨_, rfl⟩
      obtain ⟨S, hS⟩ : ∃ S, p.enc = S := ⟨_, rfl⟩
      obtain ⟨U, hUe⟩ : ∃ U, (atP p x).enc = U := ⟨_, rfl⟩
      rw [hS] at ke hsz hmid kw
      rw [hc3, hUe] at kw hat
      rw [hc3, hUe, hS] at hU
      have heq := fun V => eqTT x p.times V
      have u1 : ((S.size : Int) != (p.text.size : Int) + 16) = false := by simp; omega
      obtain ⟨M, hM⟩ : ∃ M, p.text.size + 12 = M := ⟨_, rfl⟩
      have u2 : (S.size : Int) - 4 = (M : Int) := by omega
      have u3 : (12 : Int) ≤ (M : Int) := by omega
      have u4 : (M : Int) ≤ (S.size : Int) := by omega
      have u5 : (S.size : Int) ≤ 5016 := by omega
      have u6 : (p.text.size : Int) ≤ 5000 := by omega
      rw [hM] at hmid
      have u7 : ((S.extract 12 M).toList == p.text.toList) = true := by rw [bytes_eq, hmid]; simp
      have u8 : (8 : Int) ≤ (S.size : Int) := by omega
      unfold Mp.vals Ti.vals at *
      have HU := Lib.hid hU
      have HSZ := Lib.hid (And.intro hsz hM)
      clear hU hsz hmid hc g1 g2 hc3 hS hUe h1 hM
      have ce0 := Blk.cell (HB.out.nth 1 rfl) 0 (v := .int .i64 p.mac) rfl
      have ce1 := Blk.cell (HB.out.nth 1 rfl) 1 (v := .int .i64 p.times.delta) rfl
      have ce2 := Blk.cell (HB.out.nth 1 rfl) 2 (v := .bool p.times.table) rfl
      have ce3 := Blk.cell (HB.out.nth 1 rfl) 3 (v := .bool p.times.frame) rfl
      have ce4 := Blk.cell (HB.out.nth 1 rfl) 4 (v := .int .i64 p.times.at_) rfl
      have ce5 := Blk.cell (HB.out.nth 1 rfl) 5 (v := .string p.text) rfl
      go_enter Try.func7, Try.ntmps7
      go_wp2_with fail
      (with_reducible refine (ke _).mono ?_); rintro e1 W1 ⟨rfl, hb1⟩
      have HB1 := Lib.hid (HB.out.below hb1)
      clear ke hb1 HB ce0 ce1 ce2 ce3 ce4 ce5
      have z0 := Blk.cell (HB1.out.nth 0 rfl) 0 (v := .int .i64 x.delta) rfl
      have z1 := Blk.cell (HB1.out.nth 0 rfl) 1 (v := .bool x.table) rfl
      have z2 := Blk.cell (HB1.out.nth 0 rfl) 2 (v := .bool x.frame) rfl
      have z3 := Blk.cell (HB1.out.nth 0 rfl) 3 (v := .int .i64 x.at_) rfl
      go_wp2_with fail
      (with_reducible refine (kw _).mono ?_); rintro e1 W2 ⟨rfl, hb2⟩
      have HB2 := Lib.hid (HB1.out.below hb2)
      clear kw hb2 HB1 z0 z1 z2 z3
      go_wp2_with fail
      have cx0 := fun pX => Blk.cell (blk_ext (HB2.out.nth 1 rfl) pX) 0 (v := .int .i64 p.mac) rfl
      have cx1 := fun pX => Blk.cell (blk_ext (HB2.out.nth 1 rfl) pX) 1 (v := .int .i64 p.times.delta) rfl
      have cx2 := fun pX => Blk.cell (blk_ext (HB2.out.nth 1 rfl) pX) 2 (v := .bool p.times.table) rfl
      have cx3 := fun pX => Blk.cell (blk_ext (HB2.out.nth 1 rfl) pX) 3 (v := .bool p.times.frame) rfl
      have cx4 := fun pX => Blk.cell (blk_ext (HB2.out.nth 1 rfl) pX) 4 (v := .int .i64 p.times.at_) rfl
      have cx5 := fun pX => Blk.cell (blk_ext (HB2.out.nth 1 rfl) pX) 5 (v := .string p.text) rfl
      refine Go.Proofs.Ytfadhgbhdoddpaa.Q.region_ext (by kernel_rfl) (by kernel_rfl) ?_
      repeat (go_big_quiet_step (fail))
      refine wpQuiet_nil ?_
      rintro w9 ⟨pq, rfl⟩
      have HB3 := Lib.hid (HB2.out.px pq)
      clear HB2 cx0 cx1 cx2 cx3 cx4 cx5
      have hbe := HB3.out.be
      rcases hat with hc0 | ⟨hc0, hu0⟩
      · subst hc0
        obtain ⟨v1, v2, v3, v4⟩ := HU.out rfl
        obtain ⟨q1, q2⟩ := HSZ.out
        have v5 : (U.size : Int) = (S.size : Int) := by rw [v1, q1]; rfl
        have v6 : ((U.size : Int) == (S.size : Int)) = true := by rw [v5]; simp
        have v7 : (U.size : Int) - 4 = (M : Int) := by rw [v5]; exact u2
        have v8 : (M : Int) ≤ (U.size : Int) := by rw [v5]; exact u4
        have v9 : (8 : Int) ≤ (U.size : Int) := by rw [v5]; exact u8
        have v10 : (U.size : Int) ≤ 5016 := by rw [v5]; exact u5
        have v2' : U.extract 12 M = p.text := by rw [← q2]; exact v2
        have v11 : ((U.extract 12 M).toList == p.text.toList) = true := by rw [bytes_eq, v2']; simp
        have v12 : ((U.extract 0 8).toList == (S.extract 0 8).toList) = true := by rw [bytes_eq, v3]; simp
        have v13 : (U.toList == S.toList) = decide (x = p.times) := by rw [bytes_eq, decide_eq_decide]; exact v4
        obtain ⟨B, hB⟩ : ∃ B, decide (x = p.times) = B := ⟨_, rfl⟩
        rw [hB] at v13 heq
        clear hB v1 v2 v3 v4 v5 v2' q1 q2 HU HSZ
        cases B
        all_goals
          go_wp2_with fail
          have cx0 := fun pX => Blk.cell (blk_ext (HB3.out.nth 1 rfl) pX) 0 (v := .int .i64 p.mac) rfl
          have cx1 := fun pX => Blk.cell (blk_ext (HB3.out.nth 1 rfl) pX) 1 (v := .int .i64 p.times.delta) rfl
          have cx2 := fun pX => Blk.cell (blk_ext (HB3.out.nth 1 rfl) pX) 2 (v := .bool p.times.table) rfl
          have cx3 := fun pX => Blk.cell (blk_ext (HB3.out.nth 1 rfl) pX) 3 (v := .bool p.times.frame) rfl
          have cx4 := fun pX => Blk.cell (blk_ext (HB3.out.nth 1 rfl) pX) 4 (v := .int .i64 p.times.at_) rfl
          have cx5 := fun pX => Blk.cell (blk_ext (HB3.out.nth 1 rfl) pX) 5 (v := .string p.text) rfl
          have z0 := fun pX => Blk.cell (blk_ext (HB3.out.nth 0 rfl) pX) 0 (v := .int .i64 x.delta) rfl
          have z1 := fun pX => Blk.cell (blk_ext (HB3.out.nth 0 rfl) pX) 1 (v := .bool x.table) rfl
          have z2 := fun pX => Blk.cell (blk_ext (HB3.out.nth 0 rfl) pX) 2 (v := .bool x.frame) rfl
          have z3 := fun pX => Blk.cell (blk_ext (HB3.out.nth 0 rfl) pX) 3 (v := .int .i64 x.at_) rfl
          refine Go.Proofs.Ytfadhgbhdoddpaa.Q.region_ext (by kernel_rfl) (by kernel_rfl) ?_
          repeat (go_big_quiet_step (first | (go_at_call 10; exact ext_call (kaw _))))
          refine wpQuiet_nil ?_
          rintro w8 ⟨pr, rfl⟩
          have hE := (HB3.out.px pr).be
          go_wp2_with fail
          go_ret
          exact ⟨rfl, hE⟩
      · subst hc0 hu0
        clear HU heq
        go_wp2_with fail
        (with_reducible refine (kaw _).mono ?_); rintro e1 W9 ⟨rfl, hb9⟩
        have hE := hbe.trans (hb9.mono hbe.size)
        go_wp2_with fail
        go_ret
        exact ⟨rfl, hE⟩
    · have hE : p.enc = nob := by unfold Mp.enc; rw [if_neg hc]
      rw [hE] at ke
      obtain ⟨c, hcc⟩ : ∃ c, p.chk = c := ⟨_, rfl⟩
      rw [hcc] at ke hc
      have t3 : (c != 0) = true := by simpa using hc
      unfold Mp.vals Ti.vals at *
      clear hE hcc hc h1
      have ce0 := Blk.cell (HB.out.nth 1 rfl) 0 (v := .int .i64 p.mac) rfl
      have ce1 := Blk.cell (HB.out.nth 1 rfl) 1 (v := .int .i64 p.times.delta) rfl
      have ce2 := Blk.cell (HB.out.nth 1 rfl) 2 (v := .bool p.times.table) rfl
      have ce3 := Blk.cell (HB.out.nth 1 rfl) 3 (v := .bool p.times.frame) rfl
      have ce4 := Blk.cell (HB.out.nth 1 rfl) 4 (v := .int .i64 p.times.at_) rfl
      have ce5 := Blk.cell (HB.out.nth 1 rfl) 5 (v := .string p.text) rfl
      go_enter Try.func7, Try.ntmps7
      go_wp2_with fail
      (with_reducible refine (ke _).mono ?_); rintro e1 W1 ⟨rfl, hb1⟩
      have hbe := (HB.out.below hb1).be
      clear ke hb1 HB ce0 ce1 ce2 ce3 ce4 ce5
      go_wp2_with fail
      (with_reducible refine (kaw _).mono ?_); rintro e1 W9 ⟨rfl, hb9⟩
      have hE := hbe.trans (hb9.mono hbe.size)
      go_wp2_with fail
      go_ret
      exact ⟨rfl, hE⟩
end Go.Proofs.Ytfadhgbhdoddpaa.MpL
