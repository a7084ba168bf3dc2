/- burst, plain: what is stamped; what is asked of a frame. -/
import Derived.Test.YthgcmlhmhojjhaaGreatDoorBuB
import Derived.Test.YthgcmlhmhojjhaaGreatDoorBuE
import Derived.Test.YthgcmlhmhojjhaaGreatDoorLaH
namespace Go.Proofs.YthgcmlhmhojjhaaGreatDoor.BuF
open Go Go.Proofs.YthgcmlhmhojjhaaGreatDoor.St Go.Proofs.YthgcmlhmhojjhaaGreatDoor.Tab Go.Proofs.YthgcmlhmhojjhaaGreatDoor.TmA Go.Proofs.YthgcmlhmhojjhaaGreatDoor.BuA Go.Proofs.YthgcmlhmhojjhaaGreatDoor.BuB Go.Proofs.YthgcmlhmhojjhaaGreatDoor.BuC Go.Proofs.YthgcmlhmhojjhaaGreatDoor.BuD Go.Proofs.YthgcmlhmhojjhaaGreatDoor.BuE Go.Proofs.YthgcmlhmhojjhaaGreatDoor.FrA Go.Proofs.YthgcmlhmhojjhaaGreatDoor.FrB Go.Proofs.YthgcmlhmhojjhaaGreatDoor.FrC Go.Proofs.YthgcmlhmhojjhaaGreatDoor.LaH

theorem first_byte {t : ByteArray} {c : UInt8} {l : List UInt8} (h : bl t = c :: l) : 0 < t.size ∧ at' t 0 = (c.toNat : Int) := by
  refine ⟨by rw [← bl_len, h]; simp, ?_⟩
  unfold at'
  unfold bl at h
  rw [← Array.getElem?_toList, h]
  rfl
theorem isM_enc {p : MpA.Mp} (h : p.chk = 0) : isM p.enc = true := by
  obtain ⟨c, hc, _⟩ := MpP.enc_bl h
  obtain ⟨h1, h2⟩ := first_byte (t := p.enc) (c := UInt8.ofNat 62) hc
  unfold isM
  exact decide_eq_true ⟨h1, by rw [h2]; rfl⟩
theorem isF_enc {p : FcA.Fp} (h : p.chk = 0) : isF p.enc = true := by
  obtain ⟨c, hc, _⟩ := FcP.enc_bl h
  obtain ⟨h1, h2⟩ := first_byte (t := p.enc) (c := UInt8.ofNat 120) hc
  unfold isF
  exact decide_eq_true ⟨h1, by rw [h2]; rfl⟩
theorem isM_not {t : ByteArray} (h : isF t = true) : isM t = false := by
  cases hm : isM t with
  | false => rfl
  | true => rw [not_both hm] at h; cases h
theorem tm_m {p : MpA.Mp} (h : p.chk = 0) : tmE p.enc = 0 ∧ tmT p.enc = p.times := by
  obtain ⟨h1, h2⟩ := MpP.md_enc h
  exact ⟨by unfold tmE; rw [isM_enc h, if_pos rfl, h1], by unfold tmT; rw [isM_enc h, if_pos rfl, h2]⟩
theorem tm_f {p : FcA.Fp} (h : p.chk = 0) : tmE p.enc = 0 ∧ tmT p.enc = p.times := by
  obtain ⟨h1, h2⟩ := FcP.fd_enc h
  exact ⟨by unfold tmE; rw [isM_not (isF_enc h), isF_enc h, if_neg (by decide), if_pos rfl, h1], by unfold tmT; rw [isM_not (isF_enc h), isF_enc h, if_neg (by decide), if_pos rfl, h2]⟩
/-- a section that tells times is one of a part -/
theorem tm_part {t : ByteArray} (h : tmE t = 0) : (isM t = true ∧ ∃ p : MpA.Mp, p.chk = 0 ∧ p.enc = t) ∨ (isM t = false ∧ isF t = true ∧ ∃ p : FcA.Fp, p.chk = 0 ∧ p.enc = t) := by
  unfold tmE at h
  cases hM : isM t with
  | true =>
    rw [hM, if_pos rfl] at h
    exact Or.inl ⟨rfl, _, MpP.enc_md h⟩
  | false =>
    rw [hM, if_neg (by decide)] at h
    cases hF : isF t with
    | true =>
      rw [hF, if_pos rfl] at h
      exact Or.inr ⟨rfl, rfl, _, FcP.enc_fd h⟩
    | false => rw [hF, if_neg (by decide)] at h; cases h
theorem st_m {p : MpA.Mp} (h : p.chk = 0) (d : Int) : stE p.enc d = (MpD.atP p ⟨d, p.times.table, p.times.frame, p.times.at_⟩).chk ∧ stS p.enc d = (MpD.atP p ⟨d, p.times.table, p.times.frame, p.times.at_⟩).enc := by
  obtain ⟨h1, h2⟩ := tm_m h
  obtain ⟨h3, h4⟩ := MpP.md_enc h
  exact ⟨by unfold stE tmX MpD.mwE; rw [h1, if_neg (by decide), isM_enc h, if_pos rfl, h3, if_pos rfl, h2, h4], by unfold stS tmX MpD.mwS; rw [h1, if_neg (by decide), isM_enc h, if_pos rfl, h3, if_pos rfl, h2, h4]⟩
theorem st_f {p : FcA.Fp} (h : p.chk = 0) (d : Int) : stE p.enc d = (FcD.atP p ⟨d, p.times.table, p.times.frame, p.times.at_⟩).chk ∧ stS p.enc d = (FcD.atP p ⟨d, p.times.table, p.times.frame, p.times.at_⟩).enc := by
  obtain ⟨h1, h2⟩ := tm_f h
  obtain ⟨h3, h4⟩ := FcP.fd_enc h
  exact ⟨by unfold stE tmX FcD.fwE; rw [h1, if_neg (by decide), isM_not (isF_enc h), if_neg (by decide), h3, if_pos rfl, h2, h4], by unfold stS tmX FcD.fwS; rw [h1, if_neg (by decide), isM_not (isF_enc h), if_neg (by decide), h3, if_pos rfl, h2, h4]⟩
theorem chk_m {p : MpA.Mp} (h : p.chk = 0) (d : Int) : (MpD.atP p ⟨d, p.times.table, p.times.frame, p.times.at_⟩).chk = if 0 ≤ d ∧ d ≤ 4095 then 0 else 15 := by
  obtain ⟨h1, h2, h3⟩ := MpA.mchk_zero h
  by_cases hd : 0 ≤ d ∧ d ≤ 4095
  · rw [if_pos hd]
    unfold MpA.Mp.chk MpD.atP
    rw [if_pos ⟨h1, ⟨hd, h2.2⟩⟩]
    exact h3
  · rw [if_neg hd]
    unfold MpA.Mp.chk MpD.atP
    rw [if_neg (fun x => hd x.2.1)]
theorem chk_f {p : FcA.Fp} (h : p.chk = 0) (d : Int) : (FcD.atP p ⟨d, p.times.table, p.times.frame, p.times.at_⟩).chk = if 0 ≤ d ∧ d ≤ 4095 then 0 else 15 := by
  obtain ⟨h1, h2, h3⟩ := FcA.fchk_zero h
  by_cases hd : 0 ≤ d ∧ d ≤ 4095
  · rw [if_pos hd]
    unfold FcA.Fp.chk FcD.atP
    rw [if_pos ⟨h1, ⟨hd, h2.2⟩⟩]
    exact if_pos h3
  · rw [if_neg hd]
    unfold FcA.Fp.chk FcD.atP
    rw [if_neg (fun x => hd x.2.1)]
structure StOk (t : ByteArray) (d : Int) : Prop where
  e : stE t d = 0
  te : tmE (stS t d) = 0
  tt : tmT (stS t d) = tmX t d
  be : stE (stS t d) (tmT t).delta = 0
  bs : stS (stS t d) (tmT t).delta = t
  sz : (stS t d).size = t.size
theorem stamp_ok {t : ByteArray} {d : Int} (h : tmE t = 0) (hd : 0 ≤ d ∧ d ≤ 4095) : StOk t d := by
  rcases tm_part h with ⟨_, p, hp, rfl⟩ | ⟨_, _, p, hp, rfl⟩
  · have c0 := chk_m hp d
    rw [if_pos hd] at c0
    obtain ⟨e1, e2⟩ := st_m hp d
    obtain ⟨e3, e4⟩ := tm_m hp
    obtain ⟨e5, e6⟩ := tm_m c0
    obtain ⟨e7, e8⟩ := st_m c0 p.times.delta
    have eq : MpD.atP (MpD.atP p ⟨d, p.times.table, p.times.frame, p.times.at_⟩) ⟨p.times.delta, (MpD.atP p ⟨d, p.times.table, p.times.frame, p.times.at_⟩).times.table, (MpD.atP p ⟨d, p.times.table, p.times.frame, p.times.at_⟩).times.frame, (MpD.atP p ⟨d, p.times.table, p.times.frame, p.times.at_⟩).times.at_⟩ = p := rfl
    rw [eq] at e7 e8
    exact ⟨by rw [e1, c0], by rw [e2, e5], by rw [e2, e6]; unfold tmX; rw [e4]; rfl, by rw [e4, e2, e7, hp], by rw [e4, e2, e8], by rw [e2, MpP.enc_size c0, MpP.enc_size hp]; rfl⟩
  · have c0 := chk_f hp d
    rw [if_pos hd] at c0
    obtain ⟨e1, e2⟩ := st_f hp d
    obtain ⟨e3, e4⟩ := tm_f hp
    obtain ⟨e5, e6⟩ := tm_f c0
    obtain ⟨e7, e8⟩ := st_f c0 p.times.delta
    have eq : FcD.atP (FcD.atP p ⟨d, p.times.table, p.times.frame, p.times.at_⟩) ⟨p.times.delta, (FcD.atP p ⟨d, p.times.table, p.times.frame, p.times.at_⟩).times.table, (FcD.atP p ⟨d, p.times.table, p.times.frame, p.times.at_⟩).times.frame, (FcD.atP p ⟨d, p.times.table, p.times.frame, p.times.at_⟩).times.at_⟩ = p := rfl
    rw [eq] at e7 e8
    exact ⟨by rw [e1, c0], by rw [e2, e5], by rw [e2, e6]; unfold tmX; rw [e4]; rfl, by rw [e4, e2, e7, hp], by rw [e4, e2, e8], by rw [e2, FcP.enc_size c0, FcP.enc_size hp]; rfl⟩
theorem stamp_bad {t : ByteArray} {d : Int} (h : tmE t = 0) (hd : ¬ (0 ≤ d ∧ d ≤ 4095)) : stE t d = 15 ∧ stS t d = nob := by
  rcases tm_part h with ⟨_, p, hp, rfl⟩ | ⟨_, _, p, hp, rfl⟩
  · have c0 := chk_m hp d
    rw [if_neg hd] at c0
    obtain ⟨e1, e2⟩ := st_m hp d
    exact ⟨by rw [e1, c0], by rw [e2]; unfold MpA.Mp.enc; rw [if_neg (by rw [c0]; decide)]⟩
  · have c0 := chk_f hp d
    rw [if_neg hd] at c0
    obtain ⟨e1, e2⟩ := st_f hp d
    exact ⟨by rw [e1, c0], by rw [e2]; unfold FcA.Fp.enc; rw [if_neg (by rw [c0]; decide)]⟩
theorem stamp_err {t : ByteArray} {d : Int} (h : tmE t ≠ 0) : stE t d = tmE t ∧ stS t d = nob := ⟨if_pos h, if_pos h⟩
/-- a frame's datagrams are good -/
theorem good_of {S : Fr} (h : OkL S) : GoodL S.L := fun x hx => by
  have h1 := chain_in h.ch x hx
  have h2 := h.ok.u
  have h3 := h.ok.R
  have h4 := h.ok.C
  have : S.R * S.C ≤ 1024 * 191 := Nat.mul_le_mul h3 h4
  exact ⟨h1.2.2, by omega⟩
theorem pad_le (S : Fr) : padN S ≤ 191 := by
  unfold padN
  split
  · exact Nat.le_refl _
  · exact Nat.le_trans (Nat.sub_le _ _) (by decide)
theorem par_size {S : Fr} {k : Nat} {s : ByteArray} (h : s ∈ parL S k) : s.size = S.R := by
  unfold parL at h
  obtain ⟨i, _, rfl⟩ := List.mem_map.1 h
  rw [str_size]
  unfold FrC.colS
  have : (freshS S).R = S.R := by unfold freshS; split <;> rfl
  simp [this]
theorem col_of {S : Fr} (hR : isSz (S.R : Int) = true) (k : Nat) (hk : k ≤ 64) : ColOk (padN S : Nat) (parL S k) :=
  ⟨⟨by omega, by have := pad_le S; omega⟩, by rw [parL_len]; exact hk, fun s hs => by rw [par_size hs]; exact hR⟩
end Go.Proofs.YthgcmlhmhojjhaaGreatDoor.BuF
