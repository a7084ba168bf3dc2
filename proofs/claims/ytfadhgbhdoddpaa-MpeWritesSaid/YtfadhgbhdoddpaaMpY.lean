/- MpeWrites: the walk. -/
import Derived.Test.YtfadhgbhdoddpaaMpW
import Derived.Test.YtfadhgbhdoddpaaMpS
namespace Go.Proofs.Ytfadhgbhdoddpaa.MpY
open Go Go.RowKit Go.Proofs.Ytfadhgbhdoddpaa.Q Go.Proofs.Ytfadhgbhdoddpaa.Mem Go.Proofs.Ytfadhgbhdoddpaa.Rg Go.Proofs.Ytfadhgbhdoddpaa.Ap Go.Proofs.Ytfadhgbhdoddpaa.St Go.Proofs.Ytfadhgbhdoddpaa.BiP Go.Proofs.Ytfadhgbhdoddpaa.SeA Go.Proofs.Ytfadhgbhdoddpaa.SeC Go.Proofs.Ytfadhgbhdoddpaa.SeE Go.Proofs.Ytfadhgbhdoddpaa.SeEq Go.Proofs.Ytfadhgbhdoddpaa.SeI Go.Proofs.Ytfadhgbhdoddpaa.SeP Go.Proofs.Ytfadhgbhdoddpaa.TmA Go.Proofs.Ytfadhgbhdoddpaa.TmB Go.Proofs.Ytfadhgbhdoddpaa.MpA Go.Proofs.Ytfadhgbhdoddpaa.MpC Go.Proofs.Ytfadhgbhdoddpaa.MpD Go.Proofs.Ytfadhgbhdoddpaa.MpP Go.Proofs.Ytfadhgbhdoddpaa.MpR Go.Proofs.Ytfadhgbhdoddpaa.MpS Go.Proofs.Ytfadhgbhdoddpaa.MpW

theorem is_enc {p : Mp} (h : p.chk = 0) : decide (0 < p.enc.size ∧ at' p.enc 0 = 62) = true := by
  obtain ⟨c, h1, h2⟩ := enc_bl h
  have h3 : (bl p.enc)[0]? = some 62 := by rw [h1]; rfl
  have h4 := at_of h3
  have h5 := enc_size h
  rw [decide_eq_true_eq]
  exact ⟨by omega, by rw [h4]; rfl⟩
set_option maxRecDepth 100000
set_option maxHeartbeats 1600000 in
theorem writes_any (p : Mp) (w : World) : Calls Try.prog 4 #[.agg p.vals] w fun e w' => e = .returned (.bool true) ∧ Below w.heap.size w w' := by
  have kaw := fun V => awake_any V
  have HB := Lib.hid (bk1 w 25 p.vals)
  by_cases h1 : 5000 < p.text.size
  · have t1 : decide (5000 < (p.text.size : Int)) = true := by simp; omega
    unfold Mp.vals at *
    have hbe := HB.out.be
    clear h1
    go_enter Try.func4, Try.ntmps4
    go_wp2_with fail
    (with_reducible refine (kaw _).mono ?_); rintro e1 W9 ⟨rfl, hb9⟩
    have hE := hbe.trans (hb9.mono hbe.size)
    go_wp2_with fail
    go_ret
    exact ⟨rfl, hE⟩
  · have t1 : decide (5000 < (p.text.size : Int)) = false := by simp; omega
    have kp := fun V => mplain_any p V
    have kr := fun V => rmcheck_any p V (by omega)
    have ke := fun V => menc_any p V (by omega)
    have kc := fun V => mcheck_any p V (by omega)
    have kb := fun V (h : p.chk = 0) => rmbytes_any p V h
    have kis := fun V => is_any p.enc V
    have his := fun (h : p.chk = 0) => is_enc h
    have hen : p.chk = 0 → p.enc = bytesS p.sec := fun h => by unfold Mp.enc; rw [if_pos h]
    have hno : p.chk ≠ 0 → p.enc = nob := fun h => by unfold Mp.enc; rw [if_neg h]
    obtain ⟨S, hS⟩ : ∃ S, p.enc = S := ⟨_, rfl⟩
    obtain ⟨R, hR⟩ : ∃ R, bytesS p.sec = R := ⟨_, rfl⟩
    rw [hS, hR] at hen
    rw [hS] at ke kis his hno
    rw [hR] at kb
    obtain ⟨c, hc⟩ : ∃ c, p.chk = c := ⟨_, rfl⟩
    rw [hc] at kr ke kc kb his hen hno
    unfold Mp.vals at *
    clear h1 hS hR hc
    have c0 := Blk.cell (HB.out.nth 0 rfl) 0 (v := .int .i64 p.mac) rfl
    have c1 := Blk.cell (HB.out.nth 0 rfl) 1 (v := .int .i64 p.times.delta) rfl
    have c2 := Blk.cell (HB.out.nth 0 rfl) 2 (v := .bool p.times.table) rfl
    have c3 := Blk.cell (HB.out.nth 0 rfl) 3 (v := .bool p.times.frame) rfl
    have c4 := Blk.cell (HB.out.nth 0 rfl) 4 (v := .int .i64 p.times.at_) rfl
    have c5 := Blk.cell (HB.out.nth 0 rfl) 5 (v := .string p.text) rfl
    by_cases g1 : c = 0
    · subst g1
      obtain rfl := hen rfl
      have h1 := his rfl
      replace kb := fun V => kb V rfl
      rw [h1] at kis
      have hee : (S.toList == S.toList) = true := by simp
      clear his hen hno h1
      go_enter Try.func4, Try.ntmps4
      go_wp2_with fail
      (with_reducible refine (kp _).mono ?_); rintro e1 W1 ⟨rfl, hb1⟩
      have HB1 := Lib.hid (HB.out.below hb1)
      clear hb1 HB c0 c1 c2 c3 c4 c5
      go_wp2_with fail
      (with_reducible refine (kr _).mono ?_); rintro e1 W2 ⟨rfl, hb1⟩
      have HB2 := Lib.hid (HB1.out.below hb1)
      clear hb1 HB1 kr
      have c0 := Blk.cell (HB2.out.nth 0 rfl) 0 (v := .int .i64 p.mac) rfl
      have c1 := Blk.cell (HB2.out.nth 0 rfl) 1 (v := .int .i64 p.times.delta) rfl
      have c2 := Blk.cell (HB2.out.nth 0 rfl) 2 (v := .bool p.times.table) rfl
      have c3 := Blk.cell (HB2.out.nth 0 rfl) 3 (v := .bool p.times.frame) rfl
      have c4 := Blk.cell (HB2.out.nth 0 rfl) 4 (v := .int .i64 p.times.at_) rfl
      have c5 := Blk.cell (HB2.out.nth 0 rfl) 5 (v := .string p.text) rfl
      go_wp2_with fail
      (with_reducible refine (ke _).mono ?_); rintro e1 W3 ⟨rfl, hb1⟩
      have HB3 := Lib.hid (HB2.out.below hb1)
      clear hb1 HB2 ke c0 c1 c2 c3 c4 c5
      have c0 := Blk.cell (HB3.out.nth 0 rfl) 0 (v := .int .i64 p.mac) rfl
      have c1 := Blk.cell (HB3.out.nth 0 rfl) 1 (v := .int .i64 p.times.delta) rfl
      have c2 := Blk.cell (HB3.out.nth 0 rfl) 2 (v := .bool p.times.table) rfl
      have c3 := Blk.cell (HB3.out.nth 0 rfl) 3 (v := .bool p.times.frame) rfl
      have c4 := Blk.cell (HB3.out.nth 0 rfl) 4 (v := .int .i64 p.times.at_) rfl
      have c5 := Blk.cell (HB3.out.nth 0 rfl) 5 (v := .string p.text) rfl
      go_wp2_with fail
      (with_reducible refine (kc _).mono ?_); rintro e1 W4 ⟨rfl, hb1⟩
      have HB4 := Lib.hid (HB3.out.below hb1)
      clear hb1 HB3 kc c0 c1 c2 c3 c4 c5
      have c0 := Blk.cell (HB4.out.nth 0 rfl) 0 (v := .int .i64 p.mac) rfl
      have c1 := Blk.cell (HB4.out.nth 0 rfl) 1 (v := .int .i64 p.times.delta) rfl
      have c2 := Blk.cell (HB4.out.nth 0 rfl) 2 (v := .bool p.times.table) rfl
      have c3 := Blk.cell (HB4.out.nth 0 rfl) 3 (v := .bool p.times.frame) rfl
      have c4 := Blk.cell (HB4.out.nth 0 rfl) 4 (v := .int .i64 p.times.at_) rfl
      have c5 := Blk.cell (HB4.out.nth 0 rfl) 5 (v := .string p.text) rfl
      go_wp2_with fail
      (with_reducible refine (kp _).mono ?_); rintro e1 W5 ⟨rfl, hb1⟩
      have HB5 := Lib.hid (HB4.out.below hb1)
      clear hb1 HB4 kp c0 c1 c2 c3 c4 c5
      go_wp2_with fail
      (with_reducible refine (kb _).mono ?_); rintro e1 W6 ⟨rfl, hb1⟩
      have hbe := (HB5.out.below hb1).be
      clear hb1 HB5 kb
      go_wp2_with fail
      (with_reducible refine (kis _).mono ?_); rintro e1 W7 ⟨rfl, rfl⟩
      clear kis
      go_wp2_with fail
      (with_reducible refine (kaw _).mono ?_); rintro e1 W9 ⟨rfl, hb9⟩
      have hE := hbe.trans (hb9.mono hbe.size)
      go_wp2_with fail
      go_ret
      exact ⟨rfl, hE⟩
    · obtain rfl := hno g1
      have t3 : (c != 0) = true := by simpa using g1
      clear hno his hen kb kis g1
      go_enter Try.func4, Try.ntmps4
      go_wp2_with fail
      (with_reducible refine (kp _).mono ?_); rintro e1 W1 ⟨rfl, hb1⟩
      have HB1 := Lib.hid (HB.out.below hb1)
      clear kp hb1 HB c0 c1 c2 c3 c4 c5
      go_wp2_with fail
      (with_reducible refine (kr _).mono ?_); rintro e1 W2 ⟨rfl, hb1⟩
      have HB2 := Lib.hid (HB1.out.below hb1)
      clear hb1 HB1 kr
      have c0 := Blk.cell (HB2.out.nth 0 rfl) 0 (v := .int .i64 p.mac) rfl
      have c1 := Blk.cell (HB2.out.nth 0 rfl) 1 (v := .int .i64 p.times.delta) rfl
      have c2 := Blk.cell (HB2.out.nth 0 rfl) 2 (v := .bool p.times.table) rfl
      have c3 := Blk.cell (HB2.out.nth 0 rfl) 3 (v := .bool p.times.frame) rfl
      have c4 := Blk.cell (HB2.out.nth 0 rfl) 4 (v := .int .i64 p.times.at_) rfl
      have c5 := Blk.cell (HB2.out.nth 0 rfl) 5 (v := .string p.text) rfl
      go_wp2_with fail
      (with_reducible refine (ke _).mono ?_); rintro e1 W3 ⟨rfl, hb1⟩
      have HB3 := Lib.hid (HB2.out.below hb1)
      clear hb1 HB2 ke c0 c1 c2 c3 c4 c5
      have c0 := Blk.cell (HB3.out.nth 0 rfl) 0 (v := .int .i64 p.mac) rfl
      have c1 := Blk.cell (HB3.out.nth 0 rfl) 1 (v := .int .i64 p.times.delta) rfl
      have c2 := Blk.cell (HB3.out.nth 0 rfl) 2 (v := .bool p.times.table) rfl
      have c3 := Blk.cell (HB3.out.nth 0 rfl) 3 (v := .bool p.times.frame) rfl
      have c4 := Blk.cell (HB3.out.nth 0 rfl) 4 (v := .int .i64 p.times.at_) rfl
      have c5 := Blk.cell (HB3.out.nth 0 rfl) 5 (v := .string p.text) rfl
      go_wp2_with fail
      (with_reducible refine (kc _).mono ?_); rintro e1 W4 ⟨rfl, hb1⟩
      have HB4 := Lib.hid (HB3.out.below hb1)
      have hbe := HB4.out.be
      clear hb1 HB3 kc c0 c1 c2 c3 c4 c5
      go_wp2_with fail
      (with_reducible refine (kaw _).mono ?_); rintro e1 W9 ⟨rfl, hb9⟩
      have hE := hbe.trans (hb9.mono hbe.size)
      go_wp2_with fail
      go_ret
      exact ⟨rfl, hE⟩
end Go.Proofs.Ytfadhgbhdoddpaa.MpY
