/- One byte of a section that is turned; the end of one that is missing. -/
import Derived.Test.YtfadhgbhdoddpaaDoorSeP
namespace Go.Proofs.YtfadhgbhdoddpaaDoor.Turn
open Go Go.RowKit Go.Proofs.YtfadhgbhdoddpaaDoor.Q Go.Proofs.YtfadhgbhdoddpaaDoor.Mem Go.Proofs.YtfadhgbhdoddpaaDoor.Rg Go.Proofs.YtfadhgbhdoddpaaDoor.Ap Go.Proofs.YtfadhgbhdoddpaaDoor.St Go.Proofs.YtfadhgbhdoddpaaDoor.CrP Go.Proofs.YtfadhgbhdoddpaaDoor.CrC Go.Proofs.YtfadhgbhdoddpaaDoor.SeA Go.Proofs.YtfadhgbhdoddpaaDoor.SeC Go.Proofs.YtfadhgbhdoddpaaDoor.SeE Go.Proofs.YtfadhgbhdoddpaaDoor.SeG Go.Proofs.YtfadhgbhdoddpaaDoor.SeEq Go.Proofs.YtfadhgbhdoddpaaDoor.SeI Go.Proofs.YtfadhgbhdoddpaaDoor.SeP Go.Proofs.YtfadhgbhdoddpaaDoor.BiH

theorem add_off (g o n : Nat) : (⟨g, o, none⟩ : Addr).add n = ⟨g, o + n, none⟩ := by unfold Addr.add; split <;> simp_all
theorem turned_bad {s : Sc} {i : Nat} {c d : UInt8} (hc : (bl (bytesS s))[i]? = some c) (hd : c ≠ d) : decE (str ((bl (bytesS s)).set i d)) ≠ 0 ∧ decS (str ((bl (bytesS s)).set i d)) = zeroS := by
  obtain ⟨hlt, hce⟩ := List.getElem?_eq_some_iff.1 hc
  have h0 : sumL (bl (bytesS s)) = 0#32 := by rw [bytes_bl]; exact open_seal _
  have h1 : sumL ((bl (bytesS s)).set i d) ≠ 0#32 := by
    have e1 : bl (bytesS s) = (bl (bytesS s)).take i ++ c :: (bl (bytesS s)).drop (i + 1) := by
      rw [← hce, List.getElem_cons_drop, List.take_append_drop]
    rw [List.set_eq_take_append_cons_drop, if_pos hlt, ← h0]
    conv => rhs; rw [e1]
    exact crc_turned _ _ (Ne.symm hd)
  have h2 : openE (str ((bl (bytesS s)).set i d)) ≠ 0 := by
    unfold openE
    split
    · decide
    · rw [bl_str, if_neg h1]; decide
  have h3 : decE (str ((bl (bytesS s)).set i d)) ≠ 0 := by
    unfold decE
    split
    · assumption
    · split
      · decide
      · split
        · decide
        · exact h2
  exact ⟨h3, (dec_zero rfl h3).2⟩
/-- one byte that is turned -/
theorem byte_turned (c : UInt8) (y : Int) (hy : y.tmod 256 ≠ 0) : ∃ d : UInt8, bits .xor .u8 (c.toNat : Int) (y % 256) = (d.toNat : Int) ∧ c ≠ d := by
  have h2 : y % 256 ≠ 0 := fun h => hy (Int.tmod_eq_zero_of_dvd (Int.dvd_of_emod_eq_zero h))
  obtain ⟨e, he⟩ : ∃ e : UInt8, (e.toNat : Int) = y % 256 := ⟨UInt8.ofNat (y % 256).toNat, by rw [UInt8.toNat_ofNat']; omega⟩
  refine ⟨c ^^^ e, ?_, fun h => h2 ?_⟩
  · rw [← he, CrB.xor_u8, UInt8.toNat_xor]
  · have h3 : e = 0 := by
      have := congrArg (c ^^^ ·) h
      simp only [UInt8.xor_self, ← UInt8.xor_assoc, UInt8.zero_xor] at this
      exact this.symm
    rw [← he, h3]; rfl
theorem any_gen {F : World → Prop} {w : World} (S : World → Prop) (hS : S w) (h : ∀ V, S V → F V) : F w := h w hS
theorem conv_set {W : World} {T : ByteArray} {g i : Nat} (h : ∀ j, j < T.size → W.cell? ⟨g, j, none⟩ = some (.int .u8 (at' T j))) (hi : i < T.size) (r : UInt8) (c : Nat) :
    (convert 42 9 (.slice (some ⟨g, 0, none⟩) T.size c)).run Tryd.prog (W.setCell ⟨g, i, none⟩ (.int .u8 (r.toNat : Int))).drew = .ok (.string (str ((bl T).set i r))) (W.setCell ⟨g, i, none⟩ (.int .u8 (r.toNat : Int))).drew := by
  have hl : ((bl T).set i r).length = T.size := by rw [List.length_set, bl_len]
  have := run_convert_bytes_back (P := Tryd.prog) (W.setCell ⟨g, i, none⟩ (.int .u8 (r.toNat : Int))).drew 42 9 5 ⟨g, 0, none⟩ c ((bl T).set i r) Tryd.underlying42 Tryd.underlying5 Tryd.underlying9 (fun j hj => by
    rw [add_off, Nat.zero_add]
    rw [hl] at hj
    show (W.setCell ⟨g, i, none⟩ (.int .u8 (r.toNat : Int))).cell? _ = _
    by_cases e : i = j
    · subst e
      rw [World.cell?_setCell_same _ _ _ (h i hi)]
      simp
    · rw [World.cell?_setCell_other _ _ _ _ (by intro e'; simp only [Addr.mk.injEq] at e'; omega), h j hj, at_of (List.getElem?_eq_getElem (by rw [bl_len]; exact hj)), List.getElem_set_ne e])
  rw [hl] at this
  exact this
/-- the beginning of a section is none -/
theorem cut_bad {s : Sc} (h : s.chk = 0) {i : Nat} (hi : i < (bytesS s).size) : decE ((bytesS s).extract 0 i) ≠ 0 := by
  obtain ⟨h1, h2, h3, h4⟩ := enc_dec h
  have hsz := bytes_size s
  have hs2 : ((bytesS s).extract 0 i).size = i := by rw [ByteArray.size_extract]; omega
  intro h0
  by_cases h5 : 3 ≤ i
  · have a1 : at0 ((bytesS s).extract 0 i) 1 = at0 (bytesS s) 1 := at0_take _ _ 1 (by omega) (by omega)
    have a2 : at0 ((bytesS s).extract 0 i) 2 = at0 (bytesS s) 2 := at0_take _ _ 2 (by omega) (by omega)
    have hN : nN ((bytesS s).extract 0 i) = nN (bytesS s) := by unfold nN; rw [a1, a2]
    have hB : nBad ((bytesS s).extract 0 i) ↔ nBad (bytesS s) := by unfold nBad; rw [a1, hN]
    have hnb : ¬ nBad (bytesS s) := fun hb => by
      unfold needE at h3
      rw [if_neg (by omega), if_pos hb] at h3
      omega
    have hn : needE ((bytesS s).extract 0 i) = 0 := by
      unfold needE
      rw [if_neg (by rw [hs2]; omega), if_neg (fun h => hnb (hB.1 h))]
    have hm : needN ((bytesS s).extract 0 i) = needN (bytesS s) := by
      unfold needN
      rw [if_pos hn, if_pos h3, hN]
    unfold decE at h0
    rw [hn, if_neg (by decide), hm, h4, hs2, if_pos (by omega)] at h0
    omega
  · unfold decE at h0
    have hn : needE ((bytesS s).extract 0 i) = 10 := by unfold needE; rw [if_pos (by rw [hs2]; omega)]
    rw [hn, if_pos (by decide)] at h0
    omega
end Go.Proofs.YtfadhgbhdoddpaaDoor.Turn
