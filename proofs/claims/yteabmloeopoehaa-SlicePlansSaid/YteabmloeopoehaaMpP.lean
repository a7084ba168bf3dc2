/- Parts, plain: Decode of Encode, Encode of Decode; equality. -/
import Derived.Test.YteabmloeopoehaaMpD
namespace Go.Proofs.Yteabmloeopoehaa.MpP
open Go Go.RowKit Go.Proofs.Yteabmloeopoehaa.Q Go.Proofs.Yteabmloeopoehaa.Mem Go.Proofs.Yteabmloeopoehaa.Rg Go.Proofs.Yteabmloeopoehaa.Ap Go.Proofs.Yteabmloeopoehaa.St Go.Proofs.Yteabmloeopoehaa.BiP Go.Proofs.Yteabmloeopoehaa.CrP Go.Proofs.Yteabmloeopoehaa.CrC Go.Proofs.Yteabmloeopoehaa.SeA Go.Proofs.Yteabmloeopoehaa.SeC Go.Proofs.Yteabmloeopoehaa.SeE Go.Proofs.Yteabmloeopoehaa.SeEq Go.Proofs.Yteabmloeopoehaa.SeI Go.Proofs.Yteabmloeopoehaa.SeP Go.Proofs.Yteabmloeopoehaa.TmA Go.Proofs.Yteabmloeopoehaa.TmB Go.Proofs.Yteabmloeopoehaa.MpA Go.Proofs.Yteabmloeopoehaa.MpC Go.Proofs.Yteabmloeopoehaa.MpD

theorem mp_iff {a b : Mp} : a = b ↔ a.mac = b.mac ∧ a.times.delta = b.times.delta ∧ a.times.table = b.times.table ∧ a.times.frame = b.times.frame ∧ a.times.at_ = b.times.at_ ∧ a.text = b.text :=
  ⟨fun h => by subst h; simp, fun ⟨h1, h2, h3, h4, h5, h6⟩ => by
    obtain ⟨_, ⟨_, _, _, _⟩, _⟩ := a
    obtain ⟨_, ⟨_, _, _, _⟩, _⟩ := b
    simp_all⟩
instance : DecidableEq Mp := fun _ _ => decidable_of_iff _ mp_iff.symm
theorem encT_ok {t : Ti} (h : t.ok) : encT t = str (tmL t) := by unfold encT; rw [if_pos (tchk_ok h)]
theorem sec_body {p : Mp} (h : p.times.ok) : bl p.sec.body = tmL p.times ++ bl p.text := by
  show bl (encT p.times ++ p.text) = _
  rw [encT_ok h, bl_app, bl_str]
theorem sec_size {p : Mp} (h : p.times.ok) : p.sec.body.size = 4 + p.text.size := by rw [← bl_len, sec_body h, List.length_append, tm_len, bl_len]
theorem mpOf_sec {p : Mp} (h : p.chk = 0) : mpOf p.sec = p := by
  obtain ⟨⟨a1, a2⟩, h2, h3⟩ := mchk_zero h
  have e1 : p.sec.body.extract 0 4 = str (tmL p.times) := bl_inj (by rw [ext_bl, bl_str, sec_body h2, List.drop_zero, List.take_append_of_le_length (by rw [tm_len]; omega), List.take_of_length_le (by rw [tm_len]; omega)])
  have e2 : p.sec.body.extract 4 p.sec.body.size = p.text := bl_inj (by rw [ext_bl, sec_body h2, sec_size h2, List.drop_append_of_le_length (by rw [tm_len]; omega), List.drop_of_length_le (by rw [tm_len]; omega), List.nil_append, List.take_of_length_le (by rw [bl_len]; omega)])
  unfold mpOf
  rw [e1, e2, tmD_tmL _ h2]
  rfl
/-- Decode of Encode is the part -/
theorem md_enc {p : Mp} (h : p.chk = 0) : mdE p.enc = 0 ∧ mdP p.enc = p := by
  have he : p.enc = bytesS p.sec := by unfold Mp.enc; rw [if_pos h]
  obtain ⟨h1, h2, _, _⟩ := enc_dec (sec_ok h)
  obtain ⟨⟨a1, a2⟩, ht, hsz⟩ := mchk_zero h
  have h3 : mdE p.enc = 0 := by
    unfold mdE
    rw [he, if_neg (by simpa using h1), h2]
    unfold secE
    rw [if_neg (by simp [Mp.sec]), if_neg (Classical.not_not.2 ⟨rfl, rfl, rfl, rfl, rfl⟩), if_neg (by rw [sec_size ht]; omega), mpOf_sec h, h]
  refine ⟨h3, ?_⟩
  unfold mdP
  rw [if_pos h3, he, h2, mpOf_sec h]
theorem md_parts {t : ByteArray} (h : mdE t = 0) : decE t = 0 ∧ (decS t).table = 62 ∧ frm (decS t) ∧ ¬ (decS t).body.size < 4 ∧ (mpOf (decS t)).chk = 0 ∧ mdP t = mpOf (decS t) := by
  have hp : mdP t = mpOf (decS t) := by unfold mdP; rw [if_pos h]
  unfold mdE at h
  by_cases h1 : decE t = 0
  · rw [if_neg (by simpa using h1)] at h
    unfold secE at h
    by_cases h2 : (decS t).table = 62
    · rw [if_neg (by simpa using h2)] at h
      by_cases h3 : frm (decS t)
      · rw [if_neg (by simpa using h3)] at h
        by_cases h4 : (decS t).body.size < 4
        · rw [if_pos h4] at h; omega
        · rw [if_neg h4] at h
          exact ⟨h1, h2, h3, h4, h, hp⟩
      · rw [if_pos h3] at h; omega
    · rw [if_pos h2] at h; omega
  · rw [if_pos h1] at h; exact absurd h h1
/-- Encode of Decode is the bytes -/
theorem enc_md {t : ByteArray} (h : mdE t = 0) : (mdP t).chk = 0 ∧ (mdP t).enc = t := by
  obtain ⟨h1, h2, h3, h4, h5, h6⟩ := md_parts h
  obtain ⟨c1, c2⟩ := dec_enc h1
  rw [h6]
  refine ⟨h5, ?_⟩
  have hs : (mpOf (decS t)).sec = decS t := by
    rw [sc_iff]
    obtain ⟨g1, g2, g3, g4, g5⟩ := h3
    refine ⟨h2.symm, g1.symm, rfl, g2.symm, g3.symm, g4.symm, g5.symm, ?_⟩
    · apply bl_inj
      show bl (encT (tmD ((decS t).body.extract 0 4)) ++ (decS t).body.extract 4 (decS t).body.size) = _
      rw [encT_ok (tmD_ok _), bl_app, bl_str, tmL_tmD _ (by rw [ByteArray.size_extract]; omega), ext_bl, ext_bl, List.drop_zero, Nat.sub_zero]
      conv => rhs; rw [← List.take_append_drop 4 (bl (decS t).body)]
      congr 1
      exact List.take_of_length_le (by rw [List.length_drop, bl_len]; omega)
  unfold Mp.enc
  rw [if_pos h5, hs, c2]
theorem enc_inj {p q : Mp} (h : p.chk = 0) (h' : q.chk = 0) : p.enc = q.enc ↔ p = q := ⟨fun e => by rw [← (md_enc h).2, ← (md_enc h').2, e], fun e => by rw [e]⟩
theorem enc_size {p : Mp} (h : p.chk = 0) : p.enc.size = p.text.size + 16 := by
  unfold Mp.enc
  rw [if_pos h, bytes_size, sec_size (mchk_zero h).2.1]
  omega
/-- its bytes: front, times, text, check sum -/
theorem enc_bl {p : Mp} (h : p.chk = 0) : ∃ c, bl p.enc = frontL p.sec ++ (tmL p.times ++ (bl p.text ++ c)) ∧ c.length = 4 := by
  refine ⟨four (sumL (frontL p.sec ++ bl p.sec.body)), ?_, rfl⟩
  unfold Mp.enc
  rw [if_pos h, bytes_bl]
  unfold sealL
  rw [sec_body (mchk_zero h).2.1]
  simp [List.append_assoc]
set_option maxRecDepth 100000
end Go.Proofs.Yteabmloeopoehaa.MpP
