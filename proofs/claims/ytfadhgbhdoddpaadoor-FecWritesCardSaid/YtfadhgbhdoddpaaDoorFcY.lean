/- FecWrites: the walk. -/
import Derived.Test.YtfadhgbhdoddpaaDoorFcW
import Derived.Test.YtfadhgbhdoddpaaDoorFcS
namespace Go.Proofs.YtfadhgbhdoddpaaDoor.FcY
open Go Go.RowKit Go.Proofs.YtfadhgbhdoddpaaDoor.Q Go.Proofs.YtfadhgbhdoddpaaDoor.Mem Go.Proofs.YtfadhgbhdoddpaaDoor.Rg Go.Proofs.YtfadhgbhdoddpaaDoor.Ap Go.Proofs.YtfadhgbhdoddpaaDoor.St Go.Proofs.YtfadhgbhdoddpaaDoor.BiP Go.Proofs.YtfadhgbhdoddpaaDoor.SeA Go.Proofs.YtfadhgbhdoddpaaDoor.SeC Go.Proofs.YtfadhgbhdoddpaaDoor.SeE Go.Proofs.YtfadhgbhdoddpaaDoor.SeEq Go.Proofs.YtfadhgbhdoddpaaDoor.SeI Go.Proofs.YtfadhgbhdoddpaaDoor.SeP Go.Proofs.YtfadhgbhdoddpaaDoor.TmA Go.Proofs.YtfadhgbhdoddpaaDoor.TmB Go.Proofs.YtfadhgbhdoddpaaDoor.Tab Go.Proofs.YtfadhgbhdoddpaaDoor.FcA Go.Proofs.YtfadhgbhdoddpaaDoor.FcB Go.Proofs.YtfadhgbhdoddpaaDoor.FcC Go.Proofs.YtfadhgbhdoddpaaDoor.FcD Go.Proofs.YtfadhgbhdoddpaaDoor.FcP Go.Proofs.YtfadhgbhdoddpaaDoor.FcR Go.Proofs.YtfadhgbhdoddpaaDoor.FcS Go.Proofs.YtfadhgbhdoddpaaDoor.FcW

theorem is_enc {p : Fp} (h : p.chk = 0) : decide (0 < p.enc.size ∧ at' p.enc 0 = 120) = true := by
  obtain ⟨c, h1, h2⟩ := enc_bl h
  have h3 : (bl p.enc)[0]? = some 120 := by rw [h1]; rfl
  have h4 := at_of h3
  have h5 := enc_size h
  rw [decide_eq_true_eq]
  exact ⟨by omega, by rw [h4]; rfl⟩
set_option maxRecDepth 100000
set_option maxHeartbeats 1600000 in
theorem writes_any (p : Fp) (w : World) (hT : Tab 0 w) : Calls Tryd.prog 4 #[.agg p.vals] w fun e w' => e = .returned (.bool true) ∧ Below w.heap.size w w' := by
  have kaw := fun V (h : Tab 0 V) => awake_any V h
  have HB := Lib.hid (bk1 w 25 p.vals)
  have HT := Lib.hid (hT.be HB.out.be)
  by_cases h1 : 5000 < p.text.size
  · have t1 : decide (5000 < (p.text.size : Int)) = true := by simp; omega
    unfold Fp.vals at *
    have hbe := HB.out.be
    clear h1 hT
    go_enter Tryd.func4, Tryd.ntmps4
    go_wp2_with fail
    (with_reducible refine (kaw _ (HT.out)).mono ?_); rintro e1 W9 ⟨rfl, hb9⟩
    have hE := hbe.trans (hb9.mono hbe.size)
    go_wp2_with fail
    go_ret
    exact ⟨rfl, hE⟩
  · have t1 : decide (5000 < (p.text.size : Int)) = false := by simp; omega
    have kp := fun V => fplain_any p V
    have kr := fun V => rfcheck_any p V
    have ke := fun V (h : Tab 0 V) => fenc_any p V h
    have kc := fun V (h : Tab 0 V) => fcheck_any p V h
    have kb := fun V (h : p.chk = 0) => rfbytes_any p V h
    have kcut := fun V (h : 0 ≤ p.last ∧ p.last ≤ 63) => cut_any p V h
    have kis := fun V => is_any p.enc V
    have his := fun (h : p.chk = 0) => is_enc h
    have hla : p.chk = 0 → 0 ≤ p.last ∧ p.last ≤ 63 := fun h => by
      obtain ⟨⟨_, ⟨b1, b2⟩, _⟩, _⟩ := fchk_zero h
      omega
    have hen : p.chk = 0 → p.enc = bytesS p.sec := fun h => by unfold Fp.enc; rw [if_pos h]
    have hno : p.chk ≠ 0 → p.enc = nob := fun h => by unfold Fp.enc; rw [if_neg h]
    obtain ⟨S, hS⟩ : ∃ S, p.enc = S := ⟨_, rfl⟩
    obtain ⟨R, hR⟩ : ∃ R, bytesS p.sec = R := ⟨_, rfl⟩
    rw [hS, hR] at hen
    rw [hS] at ke kis his hno
    rw [hR] at kb
    obtain ⟨c, hc⟩ : ∃ c, p.chk = c := ⟨_, rfl⟩
    rw [hc] at kr ke kc kb his hla hen hno
    unfold Fp.vals at *
    clear h1 hT hS hR hc
    have c0 := Blk.cell (HB.out.nth 0 rfl) 0 (v := .int .i64 p.pad) rfl
    have c1 := Blk.cell (HB.out.nth 0 rfl) 1 (v := .int .i64 p.number) rfl
    have c2 := Blk.cell (HB.out.nth 0 rfl) 2 (v := .int .i64 p.last) rfl
    have c3 := Blk.cell (HB.out.nth 0 rfl) 3 (v := .int .i64 p.times.delta) rfl
    have c4 := Blk.cell (HB.out.nth 0 rfl) 4 (v := .bool p.times.table) rfl
    have c5 := Blk.cell (HB.out.nth 0 rfl) 5 (v := .bool p.times.frame) rfl
    have c6 := Blk.cell (HB.out.nth 0 rfl) 6 (v := .int .i64 p.times.at_) rfl
    have c7 := Blk.cell (HB.out.nth 0 rfl) 7 (v := .string p.text) rfl
    by_cases g1 : c = 0
    · subst g1
      obtain rfl := hen rfl
      replace hla := hla rfl
      have h1 := his rfl
      replace kb := fun V => kb V rfl
      replace kcut := fun V => kcut V hla
      rw [h1] at kis
      have hee : (S.toList == S.toList) = true := by simp
      obtain ⟨l1, l2⟩ := hla
      clear his hen hno h1
      go_enter Tryd.func4, Tryd.ntmps4
      go_wp2_with fail
      (with_reducible refine (kp _).mono ?_); rintro e1 W1 ⟨rfl, hb1⟩
      have HB1 := Lib.hid (HB.out.below hb1)
      have HT1 := Lib.hid (HT.out.be hb1)
      clear hb1 HB HT c0 c1 c2 c3 c4 c5 c6 c7
      go_wp2_with fail
      (with_reducible refine (kr _).mono ?_); rintro e1 W2 ⟨rfl, hb1⟩
      have HB2 := Lib.hid (HB1.out.below hb1)
      have HT2 := Lib.hid (HT1.out.be hb1)
      clear hb1 HB1 HT1 kr
      have c0 := Blk.cell (HB2.out.nth 0 rfl) 0 (v := .int .i64 p.pad) rfl
      have c1 := Blk.cell (HB2.out.nth 0 rfl) 1 (v := .int .i64 p.number) rfl
      have c2 := Blk.cell (HB2.out.nth 0 rfl) 2 (v := .int .i64 p.last) rfl
      have c3 := Blk.cell (HB2.out.nth 0 rfl) 3 (v := .int .i64 p.times.delta) rfl
      have c4 := Blk.cell (HB2.out.nth 0 rfl) 4 (v := .bool p.times.table) rfl
      have c5 := Blk.cell (HB2.out.nth 0 rfl) 5 (v := .bool p.times.frame) rfl
      have c6 := Blk.cell (HB2.out.nth 0 rfl) 6 (v := .int .i64 p.times.at_) rfl
      have c7 := Blk.cell (HB2.out.nth 0 rfl) 7 (v := .string p.text) rfl
      go_wp2_with fail
      (with_reducible refine (ke _ HT2.out).mono ?_); rintro e1 W3 ⟨rfl, hb1⟩
      have HB3 := Lib.hid (HB2.out.below hb1)
      have HT3 := Lib.hid (HT2.out.be hb1)
      clear hb1 HB2 HT2 ke c0 c1 c2 c3 c4 c5 c6 c7
      have c0 := Blk.cell (HB3.out.nth 0 rfl) 0 (v := .int .i64 p.pad) rfl
      have c1 := Blk.cell (HB3.out.nth 0 rfl) 1 (v := .int .i64 p.number) rfl
      have c2 := Blk.cell (HB3.out.nth 0 rfl) 2 (v := .int .i64 p.last) rfl
      have c3 := Blk.cell (HB3.out.nth 0 rfl) 3 (v := .int .i64 p.times.delta) rfl
      have c4 := Blk.cell (HB3.out.nth 0 rfl) 4 (v := .bool p.times.table) rfl
      have c5 := Blk.cell (HB3.out.nth 0 rfl) 5 (v := .bool p.times.frame) rfl
      have c6 := Blk.cell (HB3.out.nth 0 rfl) 6 (v := .int .i64 p.times.at_) rfl
      have c7 := Blk.cell (HB3.out.nth 0 rfl) 7 (v := .string p.text) rfl
      go_wp2_with fail
      (with_reducible refine (kc _ HT3.out).mono ?_); rintro e1 W4 ⟨rfl, hb1⟩
      have HB4 := Lib.hid (HB3.out.below hb1)
      have HT4 := Lib.hid (HT3.out.be hb1)
      clear hb1 HB3 HT3 kc c0 c1 c2 c3 c4 c5 c6 c7
      go_wp2_with fail
      have c0 := fun pX => Blk.cell (blk_ext (HB4.out.nth 0 rfl) pX) 0 (v := .int .i64 p.pad) rfl
      have c1 := fun pX => Blk.cell (blk_ext (HB4.out.nth 0 rfl) pX) 1 (v := .int .i64 p.number) rfl
      have c2 := fun pX => Blk.cell (blk_ext (HB4.out.nth 0 rfl) pX) 2 (v := .int .i64 p.last) rfl
      have c3 := fun pX => Blk.cell (blk_ext (HB4.out.nth 0 rfl) pX) 3 (v := .int .i64 p.times.delta) rfl
      have c4 := fun pX => Blk.cell (blk_ext (HB4.out.nth 0 rfl) pX) 4 (v := .bool p.times.table) rfl
      have c5 := fun pX => Blk.cell (blk_ext (HB4.out.nth 0 rfl) pX) 5 (v := .bool p.times.frame) rfl
      have c6 := fun pX => Blk.cell (blk_ext (HB4.out.nth 0 rfl) pX) 6 (v := .int .i64 p.times.at_) rfl
      have c7 := fun pX => Blk.cell (blk_ext (HB4.out.nth 0 rfl) pX) 7 (v := .string p.text) rfl
      refine Go.Proofs.YtfadhgbhdoddpaaDoor.Q.region_ext (by kernel_rfl) (by kernel_rfl) ?_
      repeat (go_big_quiet_step (first | (go_at_call 11; exact ext_call (kp _)) | (go_at_call 13; exact ext_call (kb _)) | (go_at_call 14; exact ext_call_same (kis _)) | (go_at_call 15; exact ext_call (kcut _)) | (go_at_call 8; exact ext_call (kaw _ (HT4.out.ext _)))))
      refine wpQuiet_nil ?_
      rintro w9 ⟨pq, rfl⟩
      have hE := (HB4.out.px pq).be
      go_wp2_with fail
      go_ret
      exact ⟨rfl, hE⟩
    · obtain rfl := hno g1
      have t3 : (c != 0) = true := by simpa using g1
      clear hno his hen hla kb kcut kis g1
      go_enter Tryd.func4, Tryd.ntmps4
      go_wp2_with fail
      (with_reducible refine (kp _).mono ?_); rintro e1 W1 ⟨rfl, hb1⟩
      have HB1 := Lib.hid (HB.out.below hb1)
      have HT1 := Lib.hid (HT.out.be hb1)
      clear kp hb1 HB HT c0 c1 c2 c3 c4 c5 c6 c7
      go_wp2_with fail
      (with_reducible refine (kr _).mono ?_); rintro e1 W2 ⟨rfl, hb1⟩
      have HB2 := Lib.hid (HB1.out.below hb1)
      have HT2 := Lib.hid (HT1.out.be hb1)
      clear hb1 HB1 HT1 kr
      have c0 := Blk.cell (HB2.out.nth 0 rfl) 0 (v := .int .i64 p.pad) rfl
      have c1 := Blk.cell (HB2.out.nth 0 rfl) 1 (v := .int .i64 p.number) rfl
      have c2 := Blk.cell (HB2.out.nth 0 rfl) 2 (v := .int .i64 p.last) rfl
      have c3 := Blk.cell (HB2.out.nth 0 rfl) 3 (v := .int .i64 p.times.delta) rfl
      have c4 := Blk.cell (HB2.out.nth 0 rfl) 4 (v := .bool p.times.table) rfl
      have c5 := Blk.cell (HB2.out.nth 0 rfl) 5 (v := .bool p.times.frame) rfl
      have c6 := Blk.cell (HB2.out.nth 0 rfl) 6 (v := .int .i64 p.times.at_) rfl
      have c7 := Blk.cell (HB2.out.nth 0 rfl) 7 (v := .string p.text) rfl
      go_wp2_with fail
      (with_reducible refine (ke _ HT2.out).mono ?_); rintro e1 W3 ⟨rfl, hb1⟩
      have HB3 := Lib.hid (HB2.out.below hb1)
      have HT3 := Lib.hid (HT2.out.be hb1)
      clear hb1 HB2 HT2 ke c0 c1 c2 c3 c4 c5 c6 c7
      have c0 := Blk.cell (HB3.out.nth 0 rfl) 0 (v := .int .i64 p.pad) rfl
      have c1 := Blk.cell (HB3.out.nth 0 rfl) 1 (v := .int .i64 p.number) rfl
      have c2 := Blk.cell (HB3.out.nth 0 rfl) 2 (v := .int .i64 p.last) rfl
      have c3 := Blk.cell (HB3.out.nth 0 rfl) 3 (v := .int .i64 p.times.delta) rfl
      have c4 := Blk.cell (HB3.out.nth 0 rfl) 4 (v := .bool p.times.table) rfl
      have c5 := Blk.cell (HB3.out.nth 0 rfl) 5 (v := .bool p.times.frame) rfl
      have c6 := Blk.cell (HB3.out.nth 0 rfl) 6 (v := .int .i64 p.times.at_) rfl
      have c7 := Blk.cell (HB3.out.nth 0 rfl) 7 (v := .string p.text) rfl
      go_wp2_with fail
      (with_reducible refine (kc _ HT3.out).mono ?_); rintro e1 W4 ⟨rfl, hb1⟩
      have HB4 := Lib.hid (HB3.out.below hb1)
      have HT4 := Lib.hid (HT3.out.be hb1)
      have hbe := HB4.out.be
      clear hb1 HB3 HT3 kc c0 c1 c2 c3 c4 c5 c6 c7
      go_wp2_with fail
      (with_reducible refine (kaw _ (HT4.out)).mono ?_); rintro e1 W9 ⟨rfl, hb9⟩
      have hE := hbe.trans (hb9.mono hbe.size)
      go_wp2_with fail
      go_ret
      exact ⟨rfl, hE⟩
end Go.Proofs.YtfadhgbhdoddpaaDoor.FcY
