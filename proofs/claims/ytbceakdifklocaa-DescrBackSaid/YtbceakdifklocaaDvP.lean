/- What is read is made again, plain. -/
import Derived.Test.YtbceakdifklocaaDtF
import Derived.Test.YtbceakdifklocaaDuE
namespace Go.Proofs.Ytbceakdifklocaa.DvP
open Go Go.RowKit Go.Proofs.Ytbceakdifklocaa.Q Go.Proofs.Ytbceakdifklocaa.Mem Go.Proofs.Ytbceakdifklocaa.DsA Go.Proofs.Ytbceakdifklocaa.DsB Go.Proofs.Ytbceakdifklocaa.DsC Go.Proofs.Ytbceakdifklocaa.DsD Go.Proofs.Ytbceakdifklocaa.DsE Go.Proofs.Ytbceakdifklocaa.DsApart Go.Proofs.Ytbceakdifklocaa.DsI Go.Proofs.Ytbceakdifklocaa.DsP Go.Proofs.Ytbceakdifklocaa.DsQ Go.Proofs.Ytbceakdifklocaa.DsR Go.Proofs.Ytbceakdifklocaa.DsU Go.Proofs.Ytbceakdifklocaa.DsX Go.Proofs.Ytbceakdifklocaa.DsY Go.Proofs.Ytbceakdifklocaa.DtE
theorem prs_back : ∀ (n : Nat) (l : List UInt8) (A : List Dc), l.length ≤ n → prs l = some A → firstE A = 0 ∧ loopL A = l
  | _, [], A, _, h => by rw [prs] at h; injection h with h; subst h; exact ⟨rfl, rfl⟩
  | _, [_], A, _, h => by rw [prs] at h; cases h
  | 0, _ :: _ :: _, _, hn, _ => by simp at hn
  | n + 1, t :: x :: r, A, hn, h => by
    rw [prs] at h
    split at h
    · cases h
    · rename_i hr
      cases hp : prs (r.drop x.toNat) with
      | none => rw [hp] at h; cases h
      | some B =>
        rw [hp] at h
        injection h with h
        obtain ⟨h1, h2⟩ := prs_back n (r.drop x.toNat) B (by simp at hn ⊢; omega) hp
        subst h
        have hx := UInt8.toNat_lt x
        have ht := UInt8.toNat_lt t
        have hsz : (str (r.take x.toNat)).size = x.toNat := by rw [str_size, List.length_take]; omega
        have hc : chkE ⟨(t.toNat : Int), str (r.take x.toNat)⟩ = 0 := by
          unfold chkE
          dsimp only
          rw [if_pos (by simp [in1]; omega), if_neg (by rw [hsz]; omega)]
        refine ⟨by show firstE (_ :: B) = 0; rw [firstE, if_pos hc]; exact h1, ?_⟩
        show loopL (_ :: B) = _
        have e : loopL ((⟨(t.toNat : Int), str (r.take x.toNat)⟩ : Dc) :: B) = oneL ⟨(t.toNat : Int), str (r.take x.toNat)⟩ ++ loopL B := by simp [loopL]
        rw [e, h2]
        unfold oneL
        dsimp only
        rw [hsz, Int.toNat_natCast, UInt8.ofNat_toNat, UInt8.ofNat_toNat]
        show t :: x :: (r.take x.toNat ++ r.drop x.toNat) = _
        rw [List.take_append_drop]
theorem prs_made {s : ByteArray} (h : prsE s = 0) : loopE (prsL s) = 0 ∧ str (loopL (prsL s)) = s := by
  unfold prsE at h
  split at h
  · omega
  · rename_i hs
    cases hp : prs s.data.toList with
    | none => rw [hp] at h; simp at h
    | some A =>
      obtain ⟨h1, h2⟩ := prs_back _ _ A (Nat.le_refl _) hp
      have e : prsL s = A := by unfold prsL; rw [if_neg hs, hp]; rfl
      rw [e]
      refine ⟨?_, by rw [h2]; exact str_of s⟩
      unfold loopE
      rw [if_pos h1, h2, if_neg (by have : s.data.toList.length = s.size := Array.length_toList; omega)]
theorem pl_made {d : Dc} (h : plE d = 0) : (plR d).makeE = 0 ∧ plD (plR d) = d := by
  have hR : plR d = ⟨pw d.body 0, pw d.body 2, pw d.body 4, pw d.body 6, at' d.body 8⟩ := by unfold plR; rw [if_pos h]
  unfold plE at h
  split at h
  · omega
  split at h
  · omega
  split at h
  · omega
  rename_i h1 h2 h3
  have r : ∀ i, 0 ≤ at' d.body i ∧ at' d.body i ≤ 255 := fun i => at_range d.body i
  have hm : (plR d).makeE = 0 := by
    rw [hR]
    have r0 := r 0; have r1 := r 1; have r2 := r 2; have r3 := r 3; have r4 := r 4; have r5 := r 5; have r6 := r 6; have r7 := r 7; have r8 := r 8
    unfold Pl.makeE Pl.four
    rw [if_pos]
    simp [inB, in1, pw]
    omega
  refine ⟨hm, ?_⟩
  unfold plD
  rw [if_pos hm, hR]
  refine dc_iff.2 ⟨by show (19 : Int) = d.tag; omega, ?_⟩
  show Pl.body _ = d.body
  have hl : d.body.data.toList.length = 9 := by have : d.body.data.toList.length = d.body.size := Array.length_toList; omega
  have hb : ∀ i, i < 9 → d.body.data.toList[i]? = some (UInt8.ofNat (at' d.body i).toNat) := fun i hi => by
    rw [of_at d.body i (by omega), List.getElem?_eq_getElem (by omega)]
  have hd : ∀ i, pw d.body i / 256 = at' d.body i ∧ pw d.body i % 256 = at' d.body (i + 1) := fun i => by
    have := r i; have := r (i + 1); unfold pw; omega
  unfold Pl.body Pl.four
  simp only [twos, List.flatMap_cons, List.flatMap_nil, hd, List.append_nil, List.cons_append, List.nil_append]
  have e : d.body.data.toList = [UInt8.ofNat (at' d.body 0).toNat, UInt8.ofNat (at' d.body 1).toNat, UInt8.ofNat (at' d.body 2).toNat, UInt8.ofNat (at' d.body 3).toNat, UInt8.ofNat (at' d.body 4).toNat, UInt8.ofNat (at' d.body 5).toNat, UInt8.ofNat (at' d.body 6).toNat, UInt8.ofNat (at' d.body 7).toNat, UInt8.ofNat (at' d.body 8).toNat] := by
    apply List.ext_getElem?
    intro i
    by_cases hi : i < 9
    · rw [hb i hi]
      match i, hi with
      | 0, _ | 1, _ | 2, _ | 3, _ | 4, _ | 5, _ | 6, _ | 7, _ | 8, _ => rfl
    · rw [List.getElem?_eq_none (by omega), List.getElem?_eq_none (by simp; omega)]
  refine Eq.trans ?_ ((congrArg str e).symm.trans (str_of d.body))
  rfl
end Go.Proofs.Ytbceakdifklocaa.DvP
