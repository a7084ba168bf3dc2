/- Loops of descriptors: the plain law of DescrJoins. -/
import Derived.Test.YtbceakdifklocaaDsR
namespace Go.Proofs.Ytbceakdifklocaa.DsU
open Go.RowKit Go.Proofs.Ytbceakdifklocaa.Q Go.Proofs.Ytbceakdifklocaa.Mem Go.Proofs.Ytbceakdifklocaa.DsA Go.Proofs.Ytbceakdifklocaa.DsB Go.Proofs.Ytbceakdifklocaa.DsC Go.Proofs.Ytbceakdifklocaa.DsD Go.Proofs.Ytbceakdifklocaa.DsE Go.Proofs.Ytbceakdifklocaa.DsApart Go.Proofs.Ytbceakdifklocaa.DsI Go.Proofs.Ytbceakdifklocaa.DsP Go.Proofs.Ytbceakdifklocaa.DsQ Go.Proofs.Ytbceakdifklocaa.DsR
theorem first_app (L M : List Dc) : firstE (L ++ M) = if firstE L = 0 then firstE M else firstE L := by
  induction L with
  | nil => simp [firstE]
  | cons d t ih =>
    simp only [List.cons_append, firstE]
    by_cases h : chkE d = 0
    · simp [h, ih]
    · simp [h]
theorem loop_app (L M : List Dc) : loopL (L ++ M) = loopL L ++ loopL M := by simp [loopL]
theorem join_bad1 {L M : List Dc} (h : loopE L ≠ 0) : loopE (L ++ M) ≠ 0 := by
  unfold loopE at *
  rw [first_app, loop_app, List.length_append]
  by_cases h1 : firstE L = 0
  · rw [if_pos h1] at h ⊢
    by_cases h2 : 4095 < (loopL L).length
    · by_cases h3 : firstE M = 0
      · rw [if_pos h3, if_pos (by omega)]; omega
      · rw [if_neg h3]; exact h3
    · rw [if_neg h2] at h; exact absurd rfl h
  · rw [if_neg h1, if_neg h1]; exact h1
theorem join_bad2 {L M : List Dc} (h0 : loopE L = 0) (h : loopE M ≠ 0) : loopE (L ++ M) ≠ 0 := by
  unfold loopE at *
  rw [first_app, loop_app, List.length_append]
  by_cases h1 : firstE L = 0
  · rw [if_pos h1] at ⊢
    by_cases h3 : firstE M = 0
    · rw [if_pos h3] at h ⊢
      by_cases h2 : 4095 < (loopL M).length
      · rw [if_pos (by omega)]; omega
      · rw [if_neg h2] at h; exact absurd rfl h
    · rw [if_neg h3]; exact h3
  · rw [if_neg h1] at h0; exact absurd h0 h1
theorem loop_ok {L : List Dc} (h : loopE L = 0) : firstE L = 0 ∧ (loopL L).length ≤ 4095 := by
  unfold loopE at h
  by_cases h1 : firstE L = 0
  · rw [if_pos h1] at h
    by_cases h2 : 4095 < (loopL L).length
    · rw [if_pos h2] at h; omega
    · exact ⟨h1, by omega⟩
  · rw [if_neg h1] at h; exact absurd h h1
theorem join_bad3 {L M : List Dc} (h0 : loopE L = 0) (h1 : loopE M = 0) (h : 4095 < (loopL L).length + (loopL M).length) : loopE (L ++ M) ≠ 0 := by
  unfold loopE
  rw [first_app, loop_app, List.length_append, (loop_ok h0).1, (loop_ok h1).1, if_pos rfl, if_pos rfl, if_pos h]; omega
theorem join_good {L M : List Dc} (h0 : loopE L = 0) (h1 : loopE M = 0) (h : ¬ 4095 < (loopL L).length + (loopL M).length) : loopE (L ++ M) = 0 := by
  unfold loopE
  rw [first_app, loop_app, List.length_append, (loop_ok h0).1, (loop_ok h1).1, if_pos rfl, if_pos rfl, if_neg h]
theorem chk_ok {d : Dc} (h : chkE d = 0) : (0 ≤ d.tag ∧ d.tag ≤ 255) ∧ d.body.size ≤ 255 := by
  unfold chkE at h
  split at h
  · rename_i h1
    have : 0 ≤ d.tag ∧ d.tag ≤ 255 := by simpa [in1] using h1
    split at h
    · omega
    · exact ⟨this, by omega⟩
  · omega
/-- what was made is read again -/
theorem prs_loop : ∀ (L : List Dc), firstE L = 0 → prs (loopL L) = some L
  | [], _ => by simp [loopL, prs]
  | d :: t, h => by
    have hd : chkE d = 0 := by
      by_cases h0 : chkE d = 0
      · exact h0
      · simp [firstE, h0] at h
    have ht : firstE t = 0 := by simpa [firstE, hd] using h
    obtain ⟨⟨h1, h2⟩, h3⟩ := chk_ok hd
    have e : loopL (d :: t) = UInt8.ofNat d.tag.toNat :: UInt8.ofNat d.body.size :: (d.body.data.toList ++ loopL t) := by simp [loopL, oneL]
    have hn : (UInt8.ofNat d.body.size).toNat = d.body.size := by rw [UInt8.toNat_ofNat']; omega
    have hg : (UInt8.ofNat d.tag.toNat).toNat = d.tag.toNat := by rw [UInt8.toNat_ofNat']; omega
    have hl : d.body.data.toList.length = d.body.size := Array.length_toList
    rw [e, prs, hn, if_neg (by rw [List.length_append, hl]; omega), ← hl, List.drop_left, List.take_left, prs_loop t ht, str_of, hg]
    simp only [Option.map_some]
    congr 2
    exact dc_iff.2 ⟨by show ((d.tag.toNat : Nat) : Int) = d.tag; omega, rfl⟩
theorem prs_joined {L : List Dc} (h : loopE L = 0) : prsE (str (loopL L)) = 0 ∧ prsL (str (loopL L)) = L := by
  obtain ⟨h1, h2⟩ := loop_ok h
  unfold prsE prsL
  have h3 : ¬ 4095 < (str (loopL L)).size := by rw [str_size]; omega
  rw [if_neg h3, if_neg h3, show (str (loopL L)).data.toList = loopL L from rfl, prs_loop L h1]
  exact ⟨rfl, rfl⟩
end Go.Proofs.Ytbceakdifklocaa.DsU
