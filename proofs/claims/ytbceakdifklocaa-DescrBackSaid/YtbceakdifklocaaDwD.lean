/- What was made is read again: a Slice, a Place, plain. -/
import Derived.Test.YtbceakdifklocaaDwP
namespace Go.Proofs.Ytbceakdifklocaa.DwD
open Go Go.RowKit Go.Proofs.Ytbceakdifklocaa.Q Go.Proofs.Ytbceakdifklocaa.Mem Go.Proofs.Ytbceakdifklocaa.DsA Go.Proofs.Ytbceakdifklocaa.DsB Go.Proofs.Ytbceakdifklocaa.DsC Go.Proofs.Ytbceakdifklocaa.DsD Go.Proofs.Ytbceakdifklocaa.DsE Go.Proofs.Ytbceakdifklocaa.DsApart Go.Proofs.Ytbceakdifklocaa.DsI Go.Proofs.Ytbceakdifklocaa.DsP Go.Proofs.Ytbceakdifklocaa.DsQ Go.Proofs.Ytbceakdifklocaa.DsR Go.Proofs.Ytbceakdifklocaa.DsU Go.Proofs.Ytbceakdifklocaa.DsX Go.Proofs.Ytbceakdifklocaa.DsY Go.Proofs.Ytbceakdifklocaa.DvP
theorem body_str (x : Sl) : x.body = str (UInt8.ofNat x.b0.toNat :: UInt8.ofNat x.burst.toNat :: UInt8.ofNat (x.rate * 16 + x.id).toNat :: x.more.data.toList) := by
  apply ba_ext
  rw [Sl.body, body_list]
  rfl
theorem sl_back {x : Sl} (h : x.makeE = 0) : rdE (slD x) = 0 ∧ rdS (slD x) = x := by
  obtain ⟨a1, a2, a3, a4, a5⟩ := sl_parts h
  have hd : slD x = ⟨119, x.body⟩ := by unfold slD; rw [if_pos h]
  have hsz : x.body.size = 3 + x.more.size := by
    rw [body_str, str_size]
    have : x.more.data.toList.length = x.more.size := Array.length_toList
    simp only [List.length_cons, this]; omega
  have hb := b0_range a1
  have b0 : at' x.body 0 = x.b0 := by
    rw [body_str]
    simp only [at', str]
    show (((UInt8.ofNat x.b0.toNat).toNat : Nat) : Int) = _
    rw [UInt8.toNat_ofNat']; omega
  have hbad : bad x.body = false := by
    have e : x.b0 = (if x.sl then 128 else 0) + (if x.fec then 32 else 0) + 24 + x.rows / 256 - 1 := rfl
    unfold okRows at a1
    unfold bad
    rw [b0, hsz]
    have h1 : 1 ≤ x.rows / 256 ∧ x.rows / 256 ≤ 4 := by omega
    have h2 : ¬ 255 < 3 + x.more.size := by omega
    have h3 : ¬ x.b0 / 64 % 2 = 1 ∧ x.b0 / 8 % 4 = 3 ∧ ¬ 3 < x.b0 % 8 := by
      rw [e]
      cases x.sl <;> cases x.fec <;> simp <;> omega
    simp [h2, h3]
  have hE : rdE (slD x) = 0 := by
    rw [hd]
    unfold rdE
    dsimp only
    rw [if_neg (by simp), if_neg (by omega), if_neg (by rw [hbad]; simp)]
  obtain ⟨r1, r2⟩ := rd_make (slD x) hE
  refine ⟨hE, ?_⟩
  unfold rdS
  rw [if_pos hE]
  exact sl_inj r1 h r2
theorem pl_back {x : Pl} (h : x.makeE = 0) : plE (plD x) = 0 ∧ plR (plD x) = x := by
  have hd : plD x = ⟨19, x.body⟩ := by unfold plD; rw [if_pos h]
  have hsz : x.body.size = 9 := rfl
  have hE : plE (plD x) = 0 := by
    rw [hd]
    unfold plE
    dsimp only
    rw [if_neg (by simp), if_neg (by omega), if_neg (by omega)]
  obtain ⟨r1, r2⟩ := pl_made hE
  exact ⟨hE, pl_inj r1 h r2⟩
end Go.Proofs.Ytbceakdifklocaa.DwD
