/- A datagram that Make4 makes may be, plain. -/
import Derived.Test.YtfadhgbhdoddpaaDgM
namespace Go.Proofs.Ytfadhgbhdoddpaa.DgN
open Go Go.RowKit Go.Proofs.Ytfadhgbhdoddpaa.St Go.Proofs.Ytfadhgbhdoddpaa.Ints Go.Proofs.Ytfadhgbhdoddpaa.BiH Go.Proofs.Ytfadhgbhdoddpaa.DgP Go.Proofs.Ytfadhgbhdoddpaa.DgB Go.Proofs.Ytfadhgbhdoddpaa.DgC Go.Proofs.Ytfadhgbhdoddpaa.DgM

theorem at0_bl {s : ByteArray} {i : Nat} {b : UInt8} (h : (bl s)[i]? = some b) : at0 s i = b.toNat := by
  unfold at0
  rw [← Array.getElem?_toList, show s.data.toList = bl s from rfl, h]; rfl
theorem sum20 {X Y : ByteArray} {a b : Nat} (h : ∀ i, i < 20 → i ≠ 10 → i ≠ 11 → at0 X i = at0 Y i) (h10 : at0 X 10 = a) (h11 : at0 X 11 = b) (g10 : at0 Y 10 = 0) (g11 : at0 Y 11 = 0) :
    256 * dh X 20 + dl X 20 = (256 * dh Y 20 + dl Y 20) + (256 * a + b) := by
  have e0 := h 0 (by omega) (by omega) (by omega)
  have e1 := h 1 (by omega) (by omega) (by omega)
  have e2 := h 2 (by omega) (by omega) (by omega)
  have e3 := h 3 (by omega) (by omega) (by omega)
  have e4 := h 4 (by omega) (by omega) (by omega)
  have e5 := h 5 (by omega) (by omega) (by omega)
  have e6 := h 6 (by omega) (by omega) (by omega)
  have e7 := h 7 (by omega) (by omega) (by omega)
  have e8 := h 8 (by omega) (by omega) (by omega)
  have e9 := h 9 (by omega) (by omega) (by omega)
  have e12 := h 12 (by omega) (by omega) (by omega)
  have e13 := h 13 (by omega) (by omega) (by omega)
  have e14 := h 14 (by omega) (by omega) (by omega)
  have e15 := h 15 (by omega) (by omega) (by omega)
  have e16 := h 16 (by omega) (by omega) (by omega)
  have e17 := h 17 (by omega) (by omega) (by omega)
  have e18 := h 18 (by omega) (by omega) (by omega)
  have e19 := h 19 (by omega) (by omega) (by omega)
  simp only [dh, dl]
  simp only [e0, e1, e2, e3, e4, e5, e6, e7, e8, e9, e12, e13, e14, e15, e16, e17, e18, e19, h10, h11, g10, g11]
  simp
  omega
theorem dsum_mend {X Y : ByteArray} (hX : X.size = 20) (hY : Y.size = 20) (h : ∀ i, i < 20 → i ≠ 10 → i ≠ 11 → at0 X i = at0 Y i) (h10 : at0 X 10 = dsum Y / 256) (h11 : at0 X 11 = dsum Y % 256) (g10 : at0 Y 10 = 0) (g11 : at0 Y 11 = 0) : dsum X = 0 := by
  have hs := sum20 h h10 h11 g10 g11
  have hc : 256 * (dsum Y / 256) + dsum Y % 256 = dsum Y := by omega
  rw [hc] at hs
  unfold dsum
  rw [hX, hs, r15_add _ _ (dsum_le Y)]
  have hd : dsum Y = 65535 - r15 (256 * dh Y 20 + dl Y 20) := by unfold dsum; rw [hY]
  have hle := r15_le (256 * dh Y 20 + dl Y 20)
  rw [if_neg (by omega)]
  omega
theorem mk_ok (f t b : ByteArray) (p : Int) (hf : f.size = 4) (ht : t.size = 4) (hb : b.size ≤ 4060) : dgE (mkD f t p b) = 0 ∧ (mkD f t p b).size = 20 + b.size := by
  obtain ⟨n, hn⟩ : ∃ n, 20 + b.size = n := ⟨_, rfl⟩
  have hsz : (mkD f t p b).size = n := by
    unfold mkD
    rw [ByteArray.size_append, ByteArray.size_append, ByteArray.size_append, ByteArray.size_append, son_size, son_size]
    simp only [mkN, List.length_cons, List.length_nil]
    omega
  obtain ⟨C, hC⟩ : ∃ C, mkC f t p n = C := ⟨_, rfl⟩
  have hCl : C ≤ 65535 := by rw [← hC]; exact dsum_le _
  have hbl : bl (mkD f t p b) = ([69, 0, UInt8.ofNat (n / 256), UInt8.ofNat (n % 256), 0, 0, 0, 0, 64, UInt8.ofNat p.toNat, UInt8.ofNat (C / 256), UInt8.ofNat (C % 256)] ++ (bl f ++ (bl t ++ bl b))) := by
    unfold mkD
    rw [hn, hC, bl_app, bl_app, bl_app, bl_app, nums_str, nums_str, bl_str, bl_str]
    have q1 : ((n : Int) / 256).toNat = n / 256 := by omega
    have q2 : ((n : Int) % 256).toNat = n % 256 := by omega
    have q3 : ((C : Int) / 256).toNat = C / 256 := by omega
    have q4 : ((C : Int) % 256).toNat = C % 256 := by omega
    simp only [mkN, List.map_cons, List.map_nil, q1, q2, q3, q4, List.append_assoc, List.cons_append, List.nil_append]
    rfl
  have hy : bl (strOfNums (mkN n p) ++ str [0, 0] ++ f ++ t) = ([69, 0, UInt8.ofNat (n / 256), UInt8.ofNat (n % 256), 0, 0, 0, 0, 64, UInt8.ofNat p.toNat, 0, 0] ++ (bl f ++ bl t)) := by
    rw [bl_app, bl_app, bl_app, nums_str, bl_str, bl_str]
    have q1 : ((n : Int) / 256).toNat = n / 256 := by omega
    have q2 : ((n : Int) % 256).toNat = n % 256 := by omega
    simp only [mkN, List.map_cons, List.map_nil, q1, q2, List.cons_append, List.nil_append]
    rfl
  have lf : (bl f).length = 4 := by rw [bl_len]; exact hf
  have lt : (bl t).length = 4 := by rw [bl_len]; exact ht
  match hbf : bl f, lf, hbt : bl t, lt with
  | [f0, f1, f2, f3], _, [t0, t1, t2, t3], _ =>
    rw [hbf, hbt] at hbl hy
    have k := fun (i : Nat) (x : UInt8) (h : (bl (mkD f t p b))[i]? = some x) => at0_bl h
    have o : ∀ m, m < 256 → (UInt8.ofNat m).toNat = m := fun m hm => by rw [UInt8.toNat_ofNat']; omega
    have a0 := k 0 69 (by rw [hbl]; rfl)
    have a2 := k 2 (UInt8.ofNat (n / 256)) (by rw [hbl]; rfl)
    have a3 := k 3 (UInt8.ofNat (n % 256)) (by rw [hbl]; rfl)
    rw [o _ (by omega)] at a2 a3
    rw [show (69 : UInt8).toNat = 69 from rfl] at a0
    have hh : hd4 (mkD f t p b) = ⟨4, 20, n, at0 (mkD f t p b) 9⟩ := by
      unfold hd4
      rw [a0, a2, a3]
      congr 1
      omega
    have h1 : pkE (mkD f t p b) = 0 := by
      unfold pkE
      rw [if_neg (by omega), a0, if_pos (by decide), if_neg (by omega), hh]
      unfold hdE
      dsimp only
      rw [if_neg (by omega), if_neg (by omega)]
    have h2 : pkH (mkD f t p b) = ⟨4, 20, n, at0 (mkD f t p b) 9⟩ := by
      unfold pkH
      rw [if_pos h1, a0, if_pos (by decide), hh]
    refine ⟨?_, by rw [hsz]; omega⟩
    unfold dgE
    rw [if_neg (by simpa using h1), h2, hsz]
    dsimp only
    rw [if_neg (by omega), if_neg (by omega), if_neg]
    rintro ⟨_, hd⟩
    apply hd
    have hX : bl ((mkD f t p b).extract 0 (20 : Int).toNat) = [69, 0, UInt8.ofNat (n / 256), UInt8.ofNat (n % 256), 0, 0, 0, 0, 64, UInt8.ofNat p.toNat, UInt8.ofNat (C / 256), UInt8.ofNat (C % 256), f0, f1, f2, f3, t0, t1, t2, t3] := by
      rw [ext_bl, hbl]; rfl
    have hyc : dsum (strOfNums (mkN n p) ++ str [0, 0] ++ f ++ t) = C := hC
    obtain ⟨X, hXe⟩ : ∃ X, (mkD f t p b).extract 0 (20 : Int).toNat = X := ⟨_, rfl⟩
    obtain ⟨Y, hYe⟩ : ∃ Y, strOfNums (mkN n p) ++ str [0, 0] ++ f ++ t = Y := ⟨_, rfl⟩
    rw [hXe] at hX ⊢
    rw [hYe] at hy hyc
    have x := fun (i : Nat) (b : UInt8) (h : (bl X)[i]? = some b) => at0_bl h
    have y := fun (i : Nat) (b : UInt8) (h : (bl Y)[i]? = some b) => at0_bl h
    refine dsum_mend (Y := Y) (by rw [← bl_len, hX]; rfl) (by rw [← bl_len, hy]; rfl) (fun i hi h10 h11 => ?_) ?_ ?_ ?_ ?_
    · match i, hi, h10, h11 with
      | 0, _, _, _ => rw [x 0 69 (by rw [hX]; rfl), y 0 69 (by rw [hy]; rfl)]
      | 1, _, _, _ => rw [x 1 0 (by rw [hX]; rfl), y 1 0 (by rw [hy]; rfl)]
      | 2, _, _, _ => rw [x 2 _ (by rw [hX]; rfl), y 2 _ (by rw [hy]; rfl)]
      | 3, _, _, _ => rw [x 3 _ (by rw [hX]; rfl), y 3 _ (by rw [hy]; rfl)]
      | 4, _, _, _ => rw [x 4 0 (by rw [hX]; rfl), y 4 0 (by rw [hy]; rfl)]
      | 5, _, _, _ => rw [x 5 0 (by rw [hX]; rfl), y 5 0 (by rw [hy]; rfl)]
      | 6, _, _, _ => rw [x 6 0 (by rw [hX]; rfl), y 6 0 (by rw [hy]; rfl)]
      | 7, _, _, _ => rw [x 7 0 (by rw [hX]; rfl), y 7 0 (by rw [hy]; rfl)]
      | 8, _, _, _ => rw [x 8 64 (by rw [hX]; rfl), y 8 64 (by rw [hy]; rfl)]
      | 9, _, _, _ => rw [x 9 _ (by rw [hX]; rfl), y 9 _ (by rw [hy]; rfl)]
      | 12, _, _, _ => rw [x 12 f0 (by rw [hX]; rfl), y 12 f0 (by rw [hy]; rfl)]
      | 13, _, _, _ => rw [x 13 f1 (by rw [hX]; rfl), y 13 f1 (by rw [hy]; rfl)]
      | 14, _, _, _ => rw [x 14 f2 (by rw [hX]; rfl), y 14 f2 (by rw [hy]; rfl)]
      | 15, _, _, _ => rw [x 15 f3 (by rw [hX]; rfl), y 15 f3 (by rw [hy]; rfl)]
      | 16, _, _, _ => rw [x 16 t0 (by rw [hX]; rfl), y 16 t0 (by rw [hy]; rfl)]
      | 17, _, _, _ => rw [x 17 t1 (by rw [hX]; rfl), y 17 t1 (by rw [hy]; rfl)]
      | 18, _, _, _ => rw [x 18 t2 (by rw [hX]; rfl), y 18 t2 (by rw [hy]; rfl)]
      | 19, _, _, _ => rw [x 19 t3 (by rw [hX]; rfl), y 19 t3 (by rw [hy]; rfl)]
      | k + 20, hk, _, _ => exact absurd hk (by omega)
    · rw [hyc, x 10 (UInt8.ofNat (C / 256)) (by rw [hX]; rfl), o _ (by omega)]
    · rw [hyc, x 11 (UInt8.ofNat (C % 256)) (by rw [hX]; rfl), o _ (by omega)]
    · rw [y 10 0 (by rw [hy]; rfl)]; rfl
    · rw [y 11 0 (by rw [hy]; rfl)]; rfl
end Go.Proofs.Ytfadhgbhdoddpaa.DgN
