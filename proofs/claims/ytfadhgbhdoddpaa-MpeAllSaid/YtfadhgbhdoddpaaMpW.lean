/- mpe: the chapter's example. -/
import Derived.Test.YtfadhgbhdoddpaaMpP
import Derived.Test.YtfadhgbhdoddpaaPkD
namespace Go.Proofs.Ytfadhgbhdoddpaa.MpW
open Go Go.RowKit Go.Proofs.Ytfadhgbhdoddpaa.Q Go.Proofs.Ytfadhgbhdoddpaa.Mem Go.Proofs.Ytfadhgbhdoddpaa.Rg Go.Proofs.Ytfadhgbhdoddpaa.Ap Go.Proofs.Ytfadhgbhdoddpaa.St Go.Proofs.Ytfadhgbhdoddpaa.BiP Go.Proofs.Ytfadhgbhdoddpaa.BiW Go.Proofs.Ytfadhgbhdoddpaa.BiG Go.Proofs.Ytfadhgbhdoddpaa.CrP Go.Proofs.Ytfadhgbhdoddpaa.CrC Go.Proofs.Ytfadhgbhdoddpaa.SeA Go.Proofs.Ytfadhgbhdoddpaa.SeC Go.Proofs.Ytfadhgbhdoddpaa.SeE Go.Proofs.Ytfadhgbhdoddpaa.SeEq Go.Proofs.Ytfadhgbhdoddpaa.SeI Go.Proofs.Ytfadhgbhdoddpaa.SeP Go.Proofs.Ytfadhgbhdoddpaa.TmA Go.Proofs.Ytfadhgbhdoddpaa.TmB Go.Proofs.Ytfadhgbhdoddpaa.DgC Go.Proofs.Ytfadhgbhdoddpaa.DgM Go.Proofs.Ytfadhgbhdoddpaa.DgN Go.Proofs.Ytfadhgbhdoddpaa.MpA Go.Proofs.Ytfadhgbhdoddpaa.MpC Go.Proofs.Ytfadhgbhdoddpaa.MpD Go.Proofs.Ytfadhgbhdoddpaa.MpP

/-- a datagram of a body -/
def gramD (b : ByteArray) : ByteArray := mkD ⟨#[97, 98, 99, 100]⟩ ⟨#[101, 102, 103, 104]⟩ 17 b
def hi : ByteArray := ⟨#[104, 105]⟩
theorem gram_ok (b : ByteArray) (h : b.size ≤ 4060) : dgE (gramD b) = 0 ∧ (gramD b).size = 20 + b.size := mk_ok _ _ b 17 rfl rfl h
set_option maxRecDepth 100000
theorem gram_any (b : ByteArray) (w : World) (h : b.size ≤ 4060) : Calls Try.prog 22 #[.string b] w fun e w' => e = .returned (.string (gramD b)) ∧ Below w.heap.size w w' := by
  have km := fun V => make_any ⟨#[97, 98, 99, 100]⟩ ⟨#[101, 102, 103, 104]⟩ b 17 V (by decide) (by decide) h (by decide)
  rw [show mkD ⟨#[97, 98, 99, 100]⟩ ⟨#[101, 102, 103, 104]⟩ 17 b = gramD b from rfl] at km
  obtain ⟨G, hG⟩ : ∃ G, gramD b = G := ⟨_, rfl⟩
  rw [hG] at km ⊢
  clear hG
  go_enter Try.func22, Try.ntmps22
  go_wp2_with fail
  (with_reducible refine (km _).mono ?_); rintro e1 W1 ⟨rfl, hb1⟩
  go_wp2_with fail
  go_ret
  exact ⟨rfl, hb1⟩
def exP : Mp := ⟨258, ⟨5, false, false, 3⟩, gramD hi⟩
theorem ex_chk : exP.chk = 0 := by
  unfold Mp.chk
  rw [if_pos ⟨by decide, by decide⟩]
  exact (gram_ok hi (by decide)).1
theorem ex_len : exP.text.size = 22 := (gram_ok hi (by decide)).2
theorem ex_size : exP.enc.size = 38 := by rw [enc_size ex_chk, ex_len]
theorem ex_front : exP.enc.extract 0 12 = str [62, 176, 35, 1, 2, 193, 0, 0, 0, 80, 0, 3] := by
  obtain ⟨c, h1, h2⟩ := enc_bl ex_chk
  apply bl_inj
  rw [ext_bl, h1, List.drop_zero, bl_str]
  have e1 : frontL exP.sec = [62, 176, 35, 1, 2, 193, 0, 0] := by
    have hs : exP.sec.body.size = 26 := by rw [sec_size (by decide), ex_len]
    unfold frontL
    rw [hs]
    rfl
  have e2 : tmL exP.times = [0, 80, 0, 3] := rfl
  rw [e1, e2]
  rfl
theorem ex_mid : exP.enc.extract 12 34 = gramD hi := by
  obtain ⟨c, h1, h2⟩ := enc_bl ex_chk
  apply bl_inj
  have hl : (bl exP.text).length = 22 := ex_len
  rw [ext_bl, h1, ← List.append_assoc, List.drop_append_of_le_length (by rw [List.length_append, tm_len, front_len]; omega), List.drop_of_length_le (by rw [List.length_append, tm_len, front_len]; omega), List.nil_append, List.take_append_of_le_length (by rw [hl]; omega), List.take_of_length_le (by rw [hl]; omega)]
  rfl
set_option maxHeartbeats 800000 in
theorem awake_any (w : World) : Calls Try.prog 10 #[] w fun e w' => e = .returned (.bool true) ∧ Below w.heap.size w w' := by
  have kc := fun V => gram_any hi V (by decide)
  have ke := fun V => menc_any exP V (by rw [ex_len]; decide)
  rw [ex_chk] at ke
  have h1 := ex_size
  have h2 := ex_front
  have h3 := ex_mid
  obtain ⟨S, hS⟩ : ∃ S, exP.enc = S := ⟨_, rfl⟩
  rw [hS] at ke h1 h2 h3
  unfold exP Mp.vals at ke
  obtain ⟨C, hC⟩ : ∃ C, gramD hi = C := ⟨_, rfl⟩
  rw [hC] at kc ke h3
  unfold hi at kc
  unfold str at h2
  have e2 : ((S.extract 0 12).toList == (ByteArray.mk #[62, 176, 35, 1, 2, 193, 0, 0, 0, 80, 0, 3]).toList) = true := by rw [bytes_eq, h2]; simp
  have e3 : ((S.extract 12 34).toList == C.toList) = true := by rw [bytes_eq, h3]; simp
  have z1 : (12 : Int) ≤ (S.size : Int) := by omega
  have z2 : (34 : Int) ≤ (S.size : Int) := by omega
  clear hS hC
  go_enter Try.func10, Try.ntmps10
  go_wp2_with fail
  (with_reducible refine (kc _).mono ?_); rintro e1 W1 ⟨rfl, hb1⟩
  go_wp2_with fail
  (with_reducible refine (ke _).mono ?_); rintro e1 W2 ⟨rfl, hb2⟩
  have hE := hb1.trans (hb2.mono hb1.size)
  go_wp2_with fail
  refine Go.Proofs.Ytfadhgbhdoddpaa.Q.region_ext (by kernel_rfl) (by kernel_rfl) ?_
  repeat (go_big_quiet_step ((go_at_call 22; exact ext_call (kc _))))
  refine wpQuiet_nil ?_
  rintro w9 ⟨pq, rfl⟩
  have hE2 := hE.trans ((below_ext _ pq).mono hE.size)
  go_wp2_with fail
  go_ret
  exact ⟨rfl, hE2⟩
end Go.Proofs.Ytfadhgbhdoddpaa.MpW
