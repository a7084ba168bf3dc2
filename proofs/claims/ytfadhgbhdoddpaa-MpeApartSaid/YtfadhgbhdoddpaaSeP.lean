/- Sections, plain: Encode of Decode, Decode of Encode. -/
import Derived.Test.YtfadhgbhdoddpaaSeI
import Derived.Test.YtfadhgbhdoddpaaSeE
namespace Go.Proofs.Ytfadhgbhdoddpaa.SeP
open Go Go.RowKit Go.Proofs.Ytfadhgbhdoddpaa.Q Go.Proofs.Ytfadhgbhdoddpaa.Mem Go.Proofs.Ytfadhgbhdoddpaa.Rg Go.Proofs.Ytfadhgbhdoddpaa.Ap Go.Proofs.Ytfadhgbhdoddpaa.St Go.Proofs.Ytfadhgbhdoddpaa.BiP Go.Proofs.Ytfadhgbhdoddpaa.BiA Go.Proofs.Ytfadhgbhdoddpaa.BiG Go.Proofs.Ytfadhgbhdoddpaa.BiH Go.Proofs.Ytfadhgbhdoddpaa.CrP Go.Proofs.Ytfadhgbhdoddpaa.CrC Go.Proofs.Ytfadhgbhdoddpaa.CrD Go.Proofs.Ytfadhgbhdoddpaa.SeA Go.Proofs.Ytfadhgbhdoddpaa.SeC Go.Proofs.Ytfadhgbhdoddpaa.SeG Go.Proofs.Ytfadhgbhdoddpaa.SeEq Go.Proofs.Ytfadhgbhdoddpaa.SeH Go.Proofs.Ytfadhgbhdoddpaa.SeI Go.Proofs.Ytfadhgbhdoddpaa.SeE

set_option maxRecDepth 100000
theorem at0_bl {s : ByteArray} {i : Nat} {c : UInt8} (h : (bl s)[i]? = some c) : at0 s i = c.toNat := by
  unfold at0 bl at *
  rw [Array.getElem?_toList] at h
  rw [h]; rfl
theorem bl_at0 (s : ByteArray) (i : Nat) (h : i < s.size) : (bl s)[i]? = some (UInt8.ofNat (at0 s i)) := by
  obtain ⟨c, hc, _⟩ := byte_at s i h
  rw [hc, at0_bl hc]; simp
theorem head8 (u : ByteArray) (h : 8 ≤ u.size) : bl u = [UInt8.ofNat (at0 u 0), UInt8.ofNat (at0 u 1), UInt8.ofNat (at0 u 2), UInt8.ofNat (at0 u 3), UInt8.ofNat (at0 u 4), UInt8.ofNat (at0 u 5), UInt8.ofNat (at0 u 6), UInt8.ofNat (at0 u 7)] ++ (bl u).drop 8 := by
  apply List.ext_getElem?
  intro i
  by_cases hi : i < 8
  · rw [List.getElem?_append_left (by simpa using hi), bl_at0 u i (by omega)]
    match i, hi with
    | 0, _ | 1, _ | 2, _ | 3, _ | 4, _ | 5, _ | 6, _ | 7, _ => rfl
  · rw [List.getElem?_append_right (by simp; omega), List.getElem?_drop]
    simp only [List.length_cons, List.length_nil]
    congr 1; omega
theorem nb_dec (n : Nat) : nb (decide (n % 2 = 1)) = n % 2 := by
  unfold nb
  by_cases h : n % 2 = 1 <;> simp [h] <;> omega
theorem front_rd (u : ByteArray) (h8 : 8 ≤ u.size) (h1 : at0 u 1 / 16 = 11 ∨ at0 u 1 / 16 = 15) (hn : at0 u 1 % 16 * 256 + at0 u 2 = u.size + 1) (h5 : at0 u 5 / 64 = 3) : frontL (rdS u) ++ bl (rdS u).body = bl u := by
  have hb : bl (rdS u).body = (bl u).drop 8 := by
    show bl (u.extract 8 u.size) = _
    rw [ext_bl, List.take_of_length_le (by rw [List.length_drop, bl_len]; omega)]
  have hs : (rdS u).body.size + 9 = u.size + 1 := by
    show (u.extract 8 u.size).size + 9 = _
    rw [ByteArray.size_extract]; omega
  have l0 := at0_lt u 0
  have l2 := at0_lt u 2
  have l4 := at0_lt u 4
  have l5 := at0_lt u 5
  rw [hb]
  conv => rhs; rw [head8 u h8]
  congr 1
  unfold frontL
  rw [hs, ← hn]
  simp only [rdS, Int.toNat_natCast, nb_dec]
  have e1 : 176 + 64 * (at0 u 1 / 64 % 2) + (at0 u 1 % 16 * 256 + at0 u 2) / 256 = at0 u 1 := by omega
  have e2 : (at0 u 1 % 16 * 256 + at0 u 2) % 256 = at0 u 2 := by omega
  have e3 : (at0 u 3 * 256 + at0 u 4) / 256 = at0 u 3 := by omega
  have e4 : (at0 u 3 * 256 + at0 u 4) % 256 = at0 u 4 := by omega
  have e5 : 192 + 2 * (at0 u 5 / 2 % 32) + at0 u 5 % 2 = at0 u 5 := by omega
  rw [e1, e2, e3, e4, e5]
theorem at0_take (t : ByteArray) (n i : Nat) (h : i < n) (hn : n ≤ t.size) : at0 (t.extract 0 n) i = at0 t i := by
  have h1 := bl_at0 t i (by omega)
  have h2 := bl_at0 (t.extract 0 n) i (by rw [ByteArray.size_extract]; omega)
  rw [ext_bl, List.drop_zero, Nat.sub_zero, List.getElem?_take_of_lt h, h1] at h2
  injection h2 with h2
  have l1 := at0_lt t i
  have l2 := at0_lt (t.extract 0 n) i
  have := congrArg UInt8.toNat h2
  simp at this
  omega
/-- Encode of Decode is the bytes -/
theorem dec_enc {t : ByteArray} (h : decE t = 0) : (decS t).chk = 0 ∧ bytesS (decS t) = t := by
  have hd : decS t = rdS (openS t) := by unfold decS; rw [if_pos h]
  rw [hd]
  unfold decE at h
  by_cases h1 : needE t = 0
  · rw [if_neg (by simpa using h1)] at h
    obtain ⟨g1, g2⟩ := need_le h1
    by_cases h2 : t.size < needN t
    · rw [if_pos h2] at h; omega
    · rw [if_neg h2] at h
      by_cases h3 : needN t < t.size
      · rw [if_pos h3] at h; omega
      · rw [if_neg h3] at h
        by_cases h4 : openE t = 0
        · rw [if_neg (by simpa using h4)] at h
          by_cases h5 : fBad (openS t)
          · rw [if_pos h5] at h; omega
          · have hu : openS t = t.extract 0 (t.size - 4) := by unfold openS; rw [if_pos h4]
            have h0 : sumL (bl t) = 0#32 := by
              unfold openE at h4
              rw [if_neg (by omega)] at h4
              by_cases hz : sumL (bl t) = 0#32
              · exact hz
              · rw [if_neg hz] at h4; omega
            have hsz := open_size h4 (by omega)
            have hseal := (seal_open t (by omega)).2 h0
            rw [← hu] at hseal
            have hnN : needN t = nN t + 3 := by unfold needN; rw [if_pos h1]
            have hnb : ¬ nBad t := by
              intro hb
              unfold needE at h1
              rw [if_neg (by omega), if_pos hb] at h1
              omega
            unfold nBad nN at hnb
            unfold nN at hnN
            have a1 : at0 (openS t) 1 = at0 t 1 := by rw [hu]; exact at0_take t _ 1 (by omega) (by omega)
            have a2 : at0 (openS t) 2 = at0 t 2 := by rw [hu]; exact at0_take t _ 2 (by omega) (by omega)
            unfold fBad at h5
            obtain ⟨u, hue⟩ : ∃ u, openS t = u := ⟨_, rfl⟩
            rw [hue] at a1 a2 h5 hsz hseal ⊢
            have hf := front_rd u (by omega) (by rw [a1]; omega) (by rw [a1, a2]; omega) (by omega)
            have l0 := at0_lt u 0
            have l3 := at0_lt u 3
            have l4 := at0_lt u 4
            have l7 := at0_lt u 7
            refine ⟨?_, ?_⟩
            · refine chk_ok ?_ ?_
              · unfold Sc.ok rdS; dsimp only; omega
              · show ¬ 4084 < (u.extract 8 u.size).size
                rw [ByteArray.size_extract]; omega
            · unfold bytesS
              rw [hf]; exact hseal
        · rw [if_pos h4] at h; exact absurd h h4
  · rw [if_pos h1] at h; exact absurd h h1
theorem bytes_bl (s : Sc) : bl (bytesS s) = sealL (frontL s ++ bl s.body) := bl_str _
theorem front_len (s : Sc) : (frontL s).length = 8 := rfl
theorem bytes_size (s : Sc) : (bytesS s).size = s.body.size + 12 := by
  rw [← bl_len, bytes_bl, seal_len, List.length_append, front_len, bl_len]; omega
theorem bytes_open (s : Sc) : openE (bytesS s) = 0 ∧ openS (bytesS s) = str (frontL s ++ bl s.body) := by
  have h1 : openE (bytesS s) = 0 := by
    unfold openE
    rw [if_neg (by rw [bytes_size]; omega), bytes_bl, if_pos (open_seal _)]
  refine ⟨h1, ?_⟩
  unfold openS
  rw [if_pos h1]
  apply bl_inj
  rw [ext_bl, bl_str, List.drop_zero, bytes_bl, bytes_size]
  unfold sealL
  rw [List.take_append_of_le_length (by rw [List.length_append, front_len, bl_len]; omega), List.take_of_length_le (by rw [List.length_append, front_len, bl_len]; omega)]
theorem at0_str (l : List UInt8) (i : Nat) (c : UInt8) (h : l[i]? = some c) : at0 (str l) i = c.toNat := at0_bl (by rw [bl_str]; exact h)
/-- Decode of Encode is the section -/
theorem enc_dec {s : Sc} (h : s.chk = 0) : decE (bytesS s) = 0 ∧ decS (bytesS s) = s ∧ needE (bytesS s) = 0 ∧ needN (bytesS s) = s.body.size + 12 := by
  obtain ⟨⟨⟨a1, a2⟩, ⟨b1, b2⟩, ⟨c1, c2⟩, ⟨d1, d2⟩, e1, e2⟩, hb⟩ := chk_zero h
  obtain ⟨o1, o2⟩ := bytes_open s
  have hsz := bytes_size s
  have hp := nb_le s.priv
  have hn := nb_le s.now
  have hU : ∀ (i : Nat) (c : UInt8), (frontL s)[i]? = some c → at0 (str (frontL s ++ bl s.body)) i = c.toNat := fun i c hc => at0_str _ i c (by
    rw [List.getElem?_append_left (List.getElem?_eq_some_iff.1 hc).1]; exact hc)
  have hT : ∀ (i : Nat) (c : UInt8), (frontL s)[i]? = some c → at0 (bytesS s) i = c.toNat := fun i c hc => at0_bl (by
    rw [bytes_bl]
    unfold sealL
    have hl := (List.getElem?_eq_some_iff.1 hc).1
    rw [List.getElem?_append_left (by rw [List.length_append]; omega), List.getElem?_append_left hl]; exact hc)
  have t1 := hT 1 _ rfl
  have t2 := hT 2 _ rfl
  have u0 := hU 0 _ rfl
  have u1 := hU 1 _ rfl
  have u3 := hU 3 _ rfl
  have u4 := hU 4 _ rfl
  have u5 := hU 5 _ rfl
  have u6 := hU 6 _ rfl
  have u7 := hU 7 _ rfl
  simp only [UInt8.toNat_ofNat'] at t1 t2 u0 u1 u3 u4 u5 u6 u7
  have n1 : nN (bytesS s) = s.body.size + 9 := by unfold nN; rw [t1, t2]; omega
  have n2 : ¬ nBad (bytesS s) := by unfold nBad; rw [n1, t1]; omega
  have n3 : needE (bytesS s) = 0 := by unfold needE; rw [if_neg (by omega), if_neg n2]
  have n4 : needN (bytesS s) = s.body.size + 12 := by unfold needN; rw [if_pos n3, n1]
  have hnf : ¬ fBad (openS (bytesS s)) := by rw [o2]; unfold fBad; rw [u5, u6, u7]; omega
  have n5 : decE (bytesS s) = 0 := by
    unfold decE
    rw [if_neg (by simpa using n3), if_neg (by omega), if_neg (by omega), if_neg (by simpa using o1), if_neg hnf]
  refine ⟨n5, ?_, n3, n4⟩
  unfold decS
  rw [if_pos n5, o2]
  have hbody : (str (frontL s ++ bl s.body)).extract 8 (str (frontL s ++ bl s.body)).size = s.body := by
    apply bl_inj
    rw [ext_bl, bl_str, List.drop_append_of_le_length (by rw [front_len]; omega), List.drop_of_length_le (by rw [front_len]; omega), List.nil_append, List.take_of_length_le (by rw [str_size, List.length_append, front_len]; omega)]
  have q1 : (176 + 64 * nb s.priv + (s.body.size + 9) / 256) % 2 ^ 8 / 64 % 2 = nb s.priv := by omega
  have q2 : (192 + 2 * s.version.toNat + nb s.now) % 2 ^ 8 % 2 = nb s.now := by omega
  have db : ∀ b : Bool, decide (nb b = 1) = b := fun b => by cases b <;> rfl
  rw [sc_iff]
  unfold rdS
  dsimp only
  rw [u0, u1, u3, u4, u5, u6, u7, q1, q2, db, db, hbody]
  refine ⟨by omega, rfl, by omega, by omega, rfl, by omega, by omega, rfl⟩
end Go.Proofs.Ytfadhgbhdoddpaa.SeP
