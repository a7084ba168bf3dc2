/- fec: framed, Encode. -/
import Derived.Test.YtfadhgbhdoddpaaDoorFcA
namespace Go.Proofs.YtfadhgbhdoddpaaDoor.FcB
open Go Go.RowKit Go.Proofs.YtfadhgbhdoddpaaDoor.Q Go.Proofs.YtfadhgbhdoddpaaDoor.Mem Go.Proofs.YtfadhgbhdoddpaaDoor.Rg Go.Proofs.YtfadhgbhdoddpaaDoor.Ap Go.Proofs.YtfadhgbhdoddpaaDoor.St Go.Proofs.YtfadhgbhdoddpaaDoor.BiP Go.Proofs.YtfadhgbhdoddpaaDoor.SeA Go.Proofs.YtfadhgbhdoddpaaDoor.SeC Go.Proofs.YtfadhgbhdoddpaaDoor.SeE Go.Proofs.YtfadhgbhdoddpaaDoor.SeP Go.Proofs.YtfadhgbhdoddpaaDoor.TmA Go.Proofs.YtfadhgbhdoddpaaDoor.TmB Go.Proofs.YtfadhgbhdoddpaaDoor.Tab Go.Proofs.YtfadhgbhdoddpaaDoor.FcA

theorem or255 (n : Nat) (h : n ≤ 255) : bits .or .i64 ((n : Int) * 256) 255 = ((n * 256 + 255 : Nat) : Int) := by
  have : ∀ m, m < 256 → bits .or .i64 (((m : Nat) : Int) * 256) 255 = ((m * 256 + 255 : Nat) : Int) := by decide +kernel
  exact this n (by omega)
set_option maxRecDepth 100000
theorem framed_any (n : Nat) (nu la : Int) (b : ByteArray) (w : World) (h : n ≤ 255) : Calls Tryd.prog 22 #[.int .i64 (n : Int), .int .i64 nu, .int .i64 la, .string b] w fun e w' => e = .returned (.agg (Sc.vals ⟨120, true, (n : Int) * 256 + 255, 31, true, nu, la, b⟩)) ∧ Below w.heap.size w w' := by
  have ho := or255 n h
  have hB := Lib.hid (bk1 w 52 #[.int .i64 0, .bool false, .int .i64 0, .int .i64 0, .bool false, .int .i64 0, .int .i64 0, .string nob])
  unfold Sc.vals
  dsimp only
  have z : (n : Int) ≤ 255 := by omega
  have HE := Lib.hid (show ((n * 256 + 255 : Nat) : Int) = (n : Int) * 256 + 255 by omega)
  rw [← HE.out]
  clear h
  go_enter Tryd.func22, Tryd.ntmps22
  go_wp2_with (refine wpList_store_blk (g := w.heap.size) (T := 52) (cs' := #[.int .i64 120, .bool true, .int .i64 ((n * 256 + 255 : Nat) : Int), .int .i64 31, .bool true, .int .i64 nu, .int .i64 la, .string b]) rfl 52 _ _ rfl rfl rfl (hB.out.nth 0 rfl) (by kernel_rfl) (by kernel_rfl) (by kernel_rfl) (by kernel_rfl) ?_; intro W9 hW9 hg9 hz9)
  have hVE := hB.out.be.trans (below_of_only hg9 hB.out.be.size (fun k hk => by injection hk with hk; omega))
  exact bodyPost_ret (v := .agg #[.int .i64 120, .bool true, .int .i64 ((n * 256 + 255 : Nat) : Int), .int .i64 31, .bool true, .int .i64 nu, .int .i64 la, .string b]) (results_cell_row rfl _ _ w.heap.size 52 _ (0, 0) _ rfl hW9 Tryd.underlying52 rfl (by kernel_rfl)) rfl ⟨by rfl, hVE⟩
set_option maxHeartbeats 800000 in
theorem fenc_any (p : Fp) (w : World) (hT : Tab 0 w) : Calls Tryd.prog 9 #[.agg p.vals] w fun e w' => e = .returned (.tuple #[.string p.enc, .int .i64 p.chk]) ∧ Below w.heap.size w w' := by
  have kc := fun V (h : Tab 0 V) => fcheck_any p V h
  have kt := fun V => enct_any p.times V
  have HB := Lib.hid (bk1 w 25 p.vals)
  have HT := Lib.hid (hT.be (HB.out.be))
  by_cases h : p.chk = 0
  · have hs := sec_ok h
    have ks := fun V => enc_any p.sec V
    have hE : p.enc = bytesS p.sec := by unfold Fp.enc; rw [if_pos h]
    have hE2 : encS p.sec = bytesS p.sec := by unfold encS; rw [if_pos hs]
    rw [hE2, hs] at ks
    rw [hE, h]
    rw [h] at kc
    obtain ⟨⟨⟨a1, a2⟩, ⟨b1, b2⟩, c1, c2⟩, h2, h3⟩ := fchk_zero h
    rw [tchk_ok h2] at kt
    obtain ⟨S, hS⟩ : ∃ S, bytesS p.sec = S := ⟨_, rfl⟩
    rw [hS] at ks ⊢
    unfold Fp.sec at ks
    have h4 : (encT p.times).size = 4 := by unfold encT; rw [if_pos (tchk_ok h2), str_size, tm_len]
    have h5 := isSz_true h3
    obtain ⟨T, hTe⟩ : ∃ T, encT p.times = T := ⟨_, rfl⟩
    rw [hTe] at kt ks h4
    unfold Fp.vals at kc HB HT ⊢
    obtain ⟨pa, nu, la, ti, te⟩ := p
    obtain ⟨d, ta, fr, a⟩ := ti
    unfold Ti.vals at kt
    dsimp only at *
    have ha := fun V => add_at T te (by omega) V
    obtain ⟨n, rfl⟩ : ∃ n : Nat, pa = (n : Int) := ⟨pa.toNat, by omega⟩
    have kf := fun V => framed_any n nu la (T ++ te) V (by omega)
    obtain ⟨X, hX⟩ : ∃ X, T ++ te = X := ⟨_, rfl⟩
    rw [hX] at kf ks ha
    unfold Sc.vals at ks kf
    dsimp only at ks kf
    clear hT h hs hE hE2 hS hTe hX h2 h3 h4 h5 a1 a2 b1 b2 c1 c2
    have c0 := Blk.cell (HB.out.nth 0 rfl) 0 (v := .int .i64 (n : Int)) rfl
    have c1 := Blk.cell (HB.out.nth 0 rfl) 1 (v := .int .i64 nu) rfl
    have c2 := Blk.cell (HB.out.nth 0 rfl) 2 (v := .int .i64 la) rfl
    have c3 := Blk.cell (HB.out.nth 0 rfl) 3 (v := .int .i64 d) rfl
    have c4 := Blk.cell (HB.out.nth 0 rfl) 4 (v := .bool ta) rfl
    have c5 := Blk.cell (HB.out.nth 0 rfl) 5 (v := .bool fr) rfl
    have c6 := Blk.cell (HB.out.nth 0 rfl) 6 (v := .int .i64 a) rfl
    have c7 := Blk.cell (HB.out.nth 0 rfl) 7 (v := .string te) rfl
    go_enter Tryd.func9, Tryd.ntmps9
    go_wp2_with fail
    (with_reducible refine (kc _ HT.out).mono ?_); rintro e1 W1 ⟨rfl, hb1⟩
    have HB1 := Lib.hid (HB.out.below hb1)
    clear kc c0 c1 c2 c3 c4 c5 c6 c7 HB HT hb1
    have c0 := Blk.cell (HB1.out.nth 0 rfl) 0 (v := .int .i64 (n : Int)) rfl
    have c1 := Blk.cell (HB1.out.nth 0 rfl) 1 (v := .int .i64 nu) rfl
    have c2 := Blk.cell (HB1.out.nth 0 rfl) 2 (v := .int .i64 la) rfl
    have c3 := Blk.cell (HB1.out.nth 0 rfl) 3 (v := .int .i64 d) rfl
    have c4 := Blk.cell (HB1.out.nth 0 rfl) 4 (v := .bool ta) rfl
    have c5 := Blk.cell (HB1.out.nth 0 rfl) 5 (v := .bool fr) rfl
    have c6 := Blk.cell (HB1.out.nth 0 rfl) 6 (v := .int .i64 a) rfl
    have c7 := Blk.cell (HB1.out.nth 0 rfl) 7 (v := .string te) rfl
    go_wp2_with fail
    (with_reducible refine (kt _).mono ?_); rintro e1 W2 ⟨rfl, hb2⟩
    have HB2 := Lib.hid (HB1.out.below hb2)
    clear kt c0 c1 c2 c3 c4 c5 c6 c7 HB1 hb2
    have c0 := Blk.cell (HB2.out.nth 0 rfl) 0 (v := .int .i64 (n : Int)) rfl
    have c1 := Blk.cell (HB2.out.nth 0 rfl) 1 (v := .int .i64 nu) rfl
    have c2 := Blk.cell (HB2.out.nth 0 rfl) 2 (v := .int .i64 la) rfl
    have c3 := Blk.cell (HB2.out.nth 0 rfl) 3 (v := .int .i64 d) rfl
    have c4 := Blk.cell (HB2.out.nth 0 rfl) 4 (v := .bool ta) rfl
    have c5 := Blk.cell (HB2.out.nth 0 rfl) 5 (v := .bool fr) rfl
    have c6 := Blk.cell (HB2.out.nth 0 rfl) 6 (v := .int .i64 a) rfl
    have c7 := Blk.cell (HB2.out.nth 0 rfl) 7 (v := .string te) rfl
    go_wp2_with fail
    (with_reducible refine (kf _).mono ?_); rintro e1 W3 ⟨rfl, hb3⟩
    have HB3 := Lib.hid (HB2.out.below hb3)
    go_wp2_with fail
    (with_reducible refine (ks _).mono ?_); rintro e1 W4 ⟨rfl, hb4⟩
    have hE := (HB3.out.below hb4).be
    go_wp2_with fail
    go_ret2
    exact ⟨rfl, hE⟩
  · have hE : p.enc = nob := by unfold Fp.enc; rw [if_neg h]
    rw [hE]
    obtain ⟨c, hc⟩ : ∃ c, p.chk = c := ⟨_, rfl⟩
    rw [hc] at h kc ⊢
    have t1 : (c != 0) = true := by simpa using h
    unfold Fp.vals at kc HB HT ⊢
    have c0 := Blk.cell (HB.out.nth 0 rfl) 0 (v := .int .i64 p.pad) rfl
    have c1 := Blk.cell (HB.out.nth 0 rfl) 1 (v := .int .i64 p.number) rfl
    have c2 := Blk.cell (HB.out.nth 0 rfl) 2 (v := .int .i64 p.last) rfl
    have c3 := Blk.cell (HB.out.nth 0 rfl) 3 (v := .int .i64 p.times.delta) rfl
    have c4 := Blk.cell (HB.out.nth 0 rfl) 4 (v := .bool p.times.table) rfl
    have c5 := Blk.cell (HB.out.nth 0 rfl) 5 (v := .bool p.times.frame) rfl
    have c6 := Blk.cell (HB.out.nth 0 rfl) 6 (v := .int .i64 p.times.at_) rfl
    have c7 := Blk.cell (HB.out.nth 0 rfl) 7 (v := .string p.text) rfl
    clear hE hc kt hT h
    go_enter Tryd.func9, Tryd.ntmps9
    go_wp2_with fail
    (with_reducible refine (kc _ HT.out).mono ?_); rintro e1 W1 ⟨rfl, hb1⟩
    have hE := (HB.out.below hb1).be
    go_wp2_with fail
    go_ret2
    exact ⟨rfl, hE⟩
end Go.Proofs.YtfadhgbhdoddpaaDoor.FcB
