/- Parts, plain: Decode of Encode, Encode of Decode; equality. -/
import Derived.Test.YtfadhgbhdoddpaaDoorFcD
namespace Go.Proofs.YtfadhgbhdoddpaaDoor.FcP
open Go Go.RowKit Go.Proofs.YtfadhgbhdoddpaaDoor.Q Go.Proofs.YtfadhgbhdoddpaaDoor.Mem Go.Proofs.YtfadhgbhdoddpaaDoor.Rg Go.Proofs.YtfadhgbhdoddpaaDoor.Ap Go.Proofs.YtfadhgbhdoddpaaDoor.St Go.Proofs.YtfadhgbhdoddpaaDoor.BiP Go.Proofs.YtfadhgbhdoddpaaDoor.CrP Go.Proofs.YtfadhgbhdoddpaaDoor.CrC Go.Proofs.YtfadhgbhdoddpaaDoor.SeA Go.Proofs.YtfadhgbhdoddpaaDoor.SeC Go.Proofs.YtfadhgbhdoddpaaDoor.SeE Go.Proofs.YtfadhgbhdoddpaaDoor.SeEq Go.Proofs.YtfadhgbhdoddpaaDoor.SeI Go.Proofs.YtfadhgbhdoddpaaDoor.SeP Go.Proofs.YtfadhgbhdoddpaaDoor.TmA Go.Proofs.YtfadhgbhdoddpaaDoor.TmB Go.Proofs.YtfadhgbhdoddpaaDoor.Tab Go.Proofs.YtfadhgbhdoddpaaDoor.FcA Go.Proofs.YtfadhgbhdoddpaaDoor.FcB Go.Proofs.YtfadhgbhdoddpaaDoor.FcC Go.Proofs.YtfadhgbhdoddpaaDoor.FcD

theorem fp_iff {a b : Fp} : a = b ↔ a.pad = b.pad ∧ a.number = b.number ∧ a.last = b.last ∧ a.times.delta = b.times.delta ∧ a.times.table = b.times.table ∧ a.times.frame = b.times.frame ∧ a.times.at_ = b.times.at_ ∧ a.text = b.text :=
  ⟨fun h => by subst h; simp, fun ⟨h1, h2, h3, h4, h5, h6, h7, h8⟩ => by
    obtain ⟨_, _, _, ⟨_, _, _, _⟩, _⟩ := a
    obtain ⟨_, _, _, ⟨_, _, _, _⟩, _⟩ := b
    simp_all⟩
instance : DecidableEq Fp := fun _ _ => decidable_of_iff _ fp_iff.symm
theorem encT_ok {t : Ti} (h : t.ok) : encT t = str (tmL t) := by unfold encT; rw [if_pos (tchk_ok h)]
theorem sec_body {p : Fp} (h : p.times.ok) : bl p.sec.body = tmL p.times ++ bl p.text := by
  show bl (encT p.times ++ p.text) = _
  rw [encT_ok h, bl_app, bl_str]
theorem sec_size {p : Fp} (h : p.times.ok) : p.sec.body.size = 4 + p.text.size := by rw [← bl_len, sec_body h, List.length_append, tm_len, bl_len]
theorem fpOf_sec {p : Fp} (h : p.chk = 0) : fpOf p.sec = p := by
  obtain ⟨⟨⟨a1, a2⟩, ⟨b1, b2⟩, c1, c2⟩, h2, h3⟩ := fchk_zero h
  have e1 : p.sec.body.extract 0 4 = str (tmL p.times) := bl_inj (by rw [ext_bl, bl_str, sec_body h2, List.drop_zero, List.take_append_of_le_length (by rw [tm_len]; omega), List.take_of_length_le (by rw [tm_len]; omega)])
  have e2 : p.sec.body.extract 4 p.sec.body.size = p.text := bl_inj (by rw [ext_bl, sec_body h2, sec_size h2, List.drop_append_of_le_length (by rw [tm_len]; omega), List.drop_of_length_le (by rw [tm_len]; omega), List.nil_append, List.take_of_length_le (by rw [bl_len]; omega)])
  unfold fpOf
  rw [e1, e2, tmD_tmL _ h2]
  obtain ⟨pa, nu, la, ti, te⟩ := p
  show Fp.mk ((pa * 256 + 255) / 256) nu la ti te = _
  congr 1
  dsimp only at a1 a2
  omega
/-- Decode of Encode is the part -/
theorem fd_enc {p : Fp} (h : p.chk = 0) : fdE p.enc = 0 ∧ fdP p.enc = p := by
  have he : p.enc = bytesS p.sec := by unfold Fp.enc; rw [if_pos h]
  obtain ⟨h1, h2, _, _⟩ := enc_dec (sec_ok h)
  obtain ⟨⟨⟨a1, a2⟩, _⟩, ht, hsz⟩ := fchk_zero h
  have h3 : fdE p.enc = 0 := by
    unfold fdE
    rw [he, if_neg (by simpa using h1), h2]
    unfold secE
    rw [if_neg (by simp [Fp.sec]), if_neg (Classical.not_not.2 ⟨rfl, rfl, rfl, by show (p.pad * 256 + 255) % 256 = 255; omega⟩), if_neg (by rw [sec_size ht]; omega), fpOf_sec h, h]
  refine ⟨h3, ?_⟩
  unfold fdP
  rw [if_pos h3, he, h2, fpOf_sec h]
theorem fd_parts {t : ByteArray} (h : fdE t = 0) : decE t = 0 ∧ (decS t).table = 120 ∧ frm (decS t) ∧ ¬ (decS t).body.size < 4 ∧ (fpOf (decS t)).chk = 0 ∧ fdP t = fpOf (decS t) := by
  have hp : fdP t = fpOf (decS t) := by unfold fdP; rw [if_pos h]
  unfold fdE at h
  by_cases h1 : decE t = 0
  · rw [if_neg (by simpa using h1)] at h
    unfold secE at h
    by_cases h2 : (decS t).table = 120
    · rw [if_neg (by simpa using h2)] at h
      by_cases h3 : frm (decS t)
      · rw [if_neg (by simpa using h3)] at h
        by_cases h4 : (decS t).body.size < 4
        · rw [if_pos h4] at h; omega
        · rw [if_neg h4] at h
          exact ⟨h1, h2, h3, h4, h, hp⟩
      · rw [if_pos h3] at h; omega
    · rw [if_pos h2] at h; omega
  · rw [if_pos h1] at h; exact absurd h h1
/-- Encode of Decode is the bytes -/
theorem enc_fd {t : ByteArray} (h : fdE t = 0) : (fdP t).chk = 0 ∧ (fdP t).enc = t := by
  obtain ⟨h1, h2, h3, h4, h5, h6⟩ := fd_parts h
  obtain ⟨c1, c2⟩ := dec_enc h1
  obtain ⟨⟨_, ⟨b1, b2⟩, _⟩, _⟩ := chk_zero c1
  rw [h6]
  refine ⟨h5, ?_⟩
  have hs : (fpOf (decS t)).sec = decS t := by
    rw [sc_iff]
    obtain ⟨g1, g2, g3, g4⟩ := h3
    refine ⟨h2.symm, g1.symm, ?_, g2.symm, g3.symm, rfl, rfl, ?_⟩
    · show (decS t).ext / 256 * 256 + 255 = (decS t).ext
      omega
    · apply bl_inj
      show bl (encT (tmD ((decS t).body.extract 0 4)) ++ (decS t).body.extract 4 (decS t).body.size) = _
      rw [encT_ok (tmD_ok _), bl_app, bl_str, tmL_tmD _ (by rw [ByteArray.size_extract]; omega), ext_bl, ext_bl, List.drop_zero, Nat.sub_zero]
      conv => rhs; rw [← List.take_append_drop 4 (bl (decS t).body)]
      congr 1
      exact List.take_of_length_le (by rw [List.length_drop, bl_len]; omega)
  unfold Fp.enc
  rw [if_pos h5, hs, c2]
theorem enc_inj {p q : Fp} (h : p.chk = 0) (h' : q.chk = 0) : p.enc = q.enc ↔ p = q := ⟨fun e => by rw [← (fd_enc h).2, ← (fd_enc h').2, e], fun e => by rw [e]⟩
theorem enc_size {p : Fp} (h : p.chk = 0) : p.enc.size = p.text.size + 16 := by
  unfold Fp.enc
  rw [if_pos h, bytes_size, sec_size (fchk_zero h).2.1]
  omega
/-- its bytes: front, times, text, check sum -/
theorem enc_bl {p : Fp} (h : p.chk = 0) : ∃ c, bl p.enc = frontL p.sec ++ (tmL p.times ++ (bl p.text ++ c)) ∧ c.length = 4 := by
  refine ⟨four (sumL (frontL p.sec ++ bl p.sec.body)), ?_, rfl⟩
  unfold Fp.enc
  rw [if_pos h, bytes_bl]
  unfold sealL
  rw [sec_body (fchk_zero h).2.1]
  simp [List.append_assoc]
set_option maxRecDepth 100000
theorem eqTP (a b : Fp) (w : World) : (Op.equalIn 10000 25 (.agg a.vals) (.agg b.vals)).run Tryd.prog w = .ok (decide (a = b)) w := by
  unfold Fp.vals
  have hS : Tryd.prog.underlying 25 = some (.struct (Tryd.prog.fieldsOf 25)) := by kernel_rfl
  have hp : Tryd.prog.stoodInHeld 25 = false := by kernel_rfl
  rw [show (10000 : Nat) = 9999 + 1 from rfl, run_equalIn_agg w 9999 25 _ _ hS hp]
  simp only [Program.fieldsOf, Tryd.underlying25]
  go_simp
  simp only [fp_iff]
  by_cases h1 : a.pad = b.pad <;> by_cases h2 : a.number = b.number <;> by_cases h3 : a.last = b.last <;> by_cases h4 : a.times.delta = b.times.delta <;> by_cases h5 : a.times.table = b.times.table <;> by_cases h6 : a.times.frame = b.times.frame <;> by_cases h7 : a.times.at_ = b.times.at_ <;> by_cases h8 : a.text = b.text <;> simp [h1, h2, h3, h4, h5, h6, h7, h8, tl_iff]
end Go.Proofs.YtfadhgbhdoddpaaDoor.FcP
