/- mpe: what is wrong with a part; its section; Encode. -/
import Derived.Test.YtfadhgbhdoddpaaPkD
import Derived.Test.YtfadhgbhdoddpaaPkS
import Derived.Test.YtfadhgbhdoddpaaPkT
namespace Go.Proofs.Ytfadhgbhdoddpaa.MpA
open Go Go.RowKit Go.Proofs.Ytfadhgbhdoddpaa.Q Go.Proofs.Ytfadhgbhdoddpaa.Mem Go.Proofs.Ytfadhgbhdoddpaa.Rg Go.Proofs.Ytfadhgbhdoddpaa.Ap Go.Proofs.Ytfadhgbhdoddpaa.St Go.Proofs.Ytfadhgbhdoddpaa.BiP Go.Proofs.Ytfadhgbhdoddpaa.SeA Go.Proofs.Ytfadhgbhdoddpaa.SeC Go.Proofs.Ytfadhgbhdoddpaa.SeE Go.Proofs.Ytfadhgbhdoddpaa.SeP Go.Proofs.Ytfadhgbhdoddpaa.TmA Go.Proofs.Ytfadhgbhdoddpaa.TmB Go.Proofs.Ytfadhgbhdoddpaa.DgB Go.Proofs.Ytfadhgbhdoddpaa.DgC

/-- a part -/
structure Mp where
  mac : Int
  times : Ti
  text : ByteArray
def Mp.vals (p : Mp) : Array Value := #[.int .i64 p.mac, .int .i64 p.times.delta, .bool p.times.table, .bool p.times.frame, .int .i64 p.times.at_, .string p.text]
def Mp.ok (p : Mp) : Prop := 0 ≤ p.mac ∧ p.mac ≤ 65535
instance (p : Mp) : Decidable p.ok := by unfold Mp.ok; infer_instance
def Mp.chk (p : Mp) : Int := if p.ok ∧ p.times.ok then dgE p.text else 15
/-- its section -/
def Mp.sec (p : Mp) : Sc := ⟨62, false, p.mac, 0, true, 0, 0, encT p.times ++ p.text⟩
def Mp.enc (p : Mp) : ByteArray := if p.chk = 0 then bytesS p.sec else nob
theorem dg_size {s : ByteArray} (h : dgE s = 0) : s.size ≤ 4080 := by
  unfold dgE at h
  by_cases h1 : pkE s = 0
  · have h2 := (pk_ok h1).2.2.2
    rw [if_neg (by simpa using h1)] at h
    split at h
    · omega
    · split at h
      · omega
      · omega
  · rw [if_pos h1] at h; exact absurd h h1
theorem mchk_zero {p : Mp} (h : p.chk = 0) : p.ok ∧ p.times.ok ∧ dgE p.text = 0 := by
  unfold Mp.chk at h
  split at h
  · rename_i hk
    exact ⟨hk.1, hk.2, h⟩
  · omega
theorem sec_ok {p : Mp} (h : p.chk = 0) : p.sec.chk = 0 := by
  obtain ⟨⟨a1, a2⟩, h2, h3⟩ := mchk_zero h
  refine chk_ok ?_ ?_
  · unfold Sc.ok Mp.sec; dsimp only; omega
  · have h4 : (encT p.times).size = 4 := by unfold encT; rw [if_pos (tchk_ok h2), str_size, tm_len]
    have h5 := dg_size h3
    show ¬ 4084 < (encT p.times ++ p.text).size
    rw [ByteArray.size_append, h4]
    omega
set_option maxRecDepth 100000
set_option maxHeartbeats 800000 in
theorem mcheck_any (p : Mp) (w : World) (hs : p.text.size ≤ 1099511627776) : Calls Try.prog 14 #[.agg p.vals] w fun e w' => e = .returned (.int .i64 p.chk) ∧ Below w.heap.size w w' := by
  have kt := fun V => tcheck_any p.times V
  have kd := fun V => check_any p.text V hs
  have hc0 : ¬ p.ok → p.chk = 15 := fun h => by unfold Mp.chk; rw [if_neg (fun h' => h h'.1)]
  have hc1 : ¬ p.times.ok → p.chk = 15 := fun h => by unfold Mp.chk; rw [if_neg (fun h' => h h'.2)]
  have hc2 : p.ok → p.times.ok → p.chk = dgE p.text := fun h h' => by unfold Mp.chk; rw [if_pos ⟨h, h'⟩]
  have htc : p.times.chk = if p.times.ok then 0 else 15 := rfl
  obtain ⟨c, hc⟩ : ∃ c, p.chk = c := ⟨_, rfl⟩
  rw [hc] at hc0 hc1 hc2 ⊢
  unfold Mp.ok at hc0 hc2
  have HB := bk1 w 25 p.vals
  unfold Mp.vals at HB ⊢
  obtain ⟨ma, ti, te⟩ := p
  obtain ⟨d, ta, fr, a⟩ := ti
  unfold Ti.vals at kt
  dsimp only at *
  obtain ⟨D, hD⟩ : ∃ D, dgE te = D := ⟨_, rfl⟩
  rw [hD] at kd hc2
  have HB := Lib.hid HB
  clear hD
  by_cases t1 : ma < 0
  · have r1 : decide (ma < 0) = true := by simpa using t1
    have HC := Lib.hid (hc0 (by omega))
    clear hc0 hc1 hc2 htc hc kt kd t1
    have hE := HB.out.be
    go_enter Try.func14, Try.ntmps14
    go_wp2_with fail
    go_ret
    exact ⟨by rw [HC.out]; rfl, hE⟩
  · have r1 : decide (ma < 0) = false := by simpa using t1
    by_cases t2 : 65535 < ma
    · have r2 : decide (65535 < ma) = true := by simpa using t2
      have HC := Lib.hid (hc0 (by omega))
      clear hc0 hc1 hc2 htc hc kt kd t1 t2
      have hE := HB.out.be
      go_enter Try.func14, Try.ntmps14
      go_wp2_with fail
      go_ret
      exact ⟨by rw [HC.out]; rfl, hE⟩
    · have r2 : decide (65535 < ma) = false := by simpa using t2
      by_cases htk : Ti.ok ⟨d, ta, fr, a⟩
      · rw [htc, if_pos htk] at kt
        have HC := Lib.hid (hc2 (by omega) htk)
        clear hc0 hc1 hc2 htc hc htk t1 t2
        go_enter Try.func14, Try.ntmps14
        go_wp2_with fail
        (with_reducible refine (kt _).mono ?_); rintro e1 W1 ⟨rfl, hb1⟩
        have HB1 := Lib.hid (HB.out.below hb1)
        clear HB hb1 kt
        have c5 := Blk.cell (HB1.out.nth 0 rfl) 5 (v := .string te) rfl
        go_wp2_with fail
        (with_reducible refine (kd _).mono ?_); rintro e1 W2 ⟨rfl, hb2⟩
        have hE := (HB1.out.below hb2).be
        go_wp2_with fail
        go_ret
        exact ⟨by rw [HC.out]; rfl, hE⟩
      · rw [htc, if_neg htk] at kt
        have HC := Lib.hid (hc1 htk)
        clear hc0 hc1 hc2 htc hc htk t1 t2 kd
        go_enter Try.func14, Try.ntmps14
        go_wp2_with fail
        (with_reducible refine (kt _).mono ?_); rintro e1 W1 ⟨rfl, hb1⟩
        have hE := (HB.out.below hb1).be
        go_wp2_with fail
        go_ret
        exact ⟨by rw [HC.out]; rfl, hE⟩
theorem framed_any (n : Int) (b : ByteArray) (w : World) : Calls Try.prog 25 #[.int .i64 n, .string b] w fun e w' => e = .returned (.agg (Sc.vals ⟨62, false, n, 0, true, 0, 0, b⟩)) ∧ Below w.heap.size w w' := by
  have hB := Lib.hid (bk1 w 57 #[.int .i64 0, .bool false, .int .i64 0, .int .i64 0, .bool false, .int .i64 0, .int .i64 0, .string nob])
  unfold Sc.vals
  dsimp only
  go_enter Try.func25, Try.ntmps25
  go_wp2_with (refine wpList_store_blk (g := w.heap.size) (T := 57) (cs' := #[.int .i64 62, .bool false, .int .i64 n, .int .i64 0, .bool true, .int .i64 0, .int .i64 0, .string b]) rfl 57 _ _ rfl rfl rfl (hB.out.nth 0 rfl) (by kernel_rfl) (by kernel_rfl) (by kernel_rfl) (by kernel_rfl) ?_; intro W9 hW9 hg9 hz9)
  have hVE := hB.out.be.trans (below_of_only hg9 hB.out.be.size (fun k hk => by injection hk with hk; omega))
  exact bodyPost_ret (v := .agg #[.int .i64 62, .bool false, .int .i64 n, .int .i64 0, .bool true, .int .i64 0, .int .i64 0, .string b]) (results_cell_row rfl _ _ w.heap.size 57 _ (0, 0) _ rfl hW9 Try.underlying57 rfl (by kernel_rfl)) rfl ⟨by rfl, hVE⟩
set_option maxHeartbeats 800000 in
theorem menc_any (p : Mp) (w : World) (hts : p.text.size ≤ 1099511627776) : Calls Try.prog 11 #[.agg p.vals] w fun e w' => e = .returned (.tuple #[.string p.enc, .int .i64 p.chk]) ∧ Below w.heap.size w w' := by
  have kc := fun V => mcheck_any p V hts
  have kt := fun V => enct_any p.times V
  have HB := Lib.hid (bk1 w 25 p.vals)
  by_cases h : p.chk = 0
  · have hs := sec_ok h
    have ks := fun V => enc_any p.sec V
    have hE : p.enc = bytesS p.sec := by unfold Mp.enc; rw [if_pos h]
    have hE2 : encS p.sec = bytesS p.sec := by unfold encS; rw [if_pos hs]
    rw [hE2, hs] at ks
    rw [hE, h]
    rw [h] at kc
    obtain ⟨⟨a1, a2⟩, h2, h3⟩ := mchk_zero h
    rw [tchk_ok h2] at kt
    obtain ⟨S, hS⟩ : ∃ S, bytesS p.sec = S := ⟨_, rfl⟩
    rw [hS] at ks ⊢
    unfold Mp.sec at ks
    have h4 : (encT p.times).size = 4 := by unfold encT; rw [if_pos (tchk_ok h2), str_size, tm_len]
    have h5 := dg_size h3
    obtain ⟨T, hTe⟩ : ∃ T, encT p.times = T := ⟨_, rfl⟩
    rw [hTe] at kt ks h4
    unfold Mp.vals at kc HB ⊢
    obtain ⟨ma, ti, te⟩ := p
    obtain ⟨d, ta, fr, a⟩ := ti
    unfold Ti.vals at kt
    dsimp only at *
    have ha := fun V => add_at T te (by omega) V
    have kf := fun V => framed_any ma (T ++ te) V
    obtain ⟨X, hX⟩ : ∃ X, T ++ te = X := ⟨_, rfl⟩
    rw [hX] at kf ks ha
    unfold Sc.vals at ks kf
    dsimp only at ks kf
    clear h hs hE hE2 hS hTe hX h2 h3 h4 h5 a1 a2 hts
    have c0 := Blk.cell (HB.out.nth 0 rfl) 0 (v := .int .i64 ma) rfl
    have c1 := Blk.cell (HB.out.nth 0 rfl) 1 (v := .int .i64 d) rfl
    have c2 := Blk.cell (HB.out.nth 0 rfl) 2 (v := .bool ta) rfl
    have c3 := Blk.cell (HB.out.nth 0 rfl) 3 (v := .bool fr) rfl
    have c4 := Blk.cell (HB.out.nth 0 rfl) 4 (v := .int .i64 a) rfl
    have c5 := Blk.cell (HB.out.nth 0 rfl) 5 (v := .string te) rfl
    go_enter Try.func11, Try.ntmps11
    go_wp2_with fail
    (with_reducible refine (kc _).mono ?_); rintro e1 W1 ⟨rfl, hb1⟩
    have HB1 := Lib.hid (HB.out.below hb1)
    clear kc c0 c1 c2 c3 c4 c5 HB hb1
    have c0 := Blk.cell (HB1.out.nth 0 rfl) 0 (v := .int .i64 ma) rfl
    have c1 := Blk.cell (HB1.out.nth 0 rfl) 1 (v := .int .i64 d) rfl
    have c2 := Blk.cell (HB1.out.nth 0 rfl) 2 (v := .bool ta) rfl
    have c3 := Blk.cell (HB1.out.nth 0 rfl) 3 (v := .bool fr) rfl
    have c4 := Blk.cell (HB1.out.nth 0 rfl) 4 (v := .int .i64 a) rfl
    have c5 := Blk.cell (HB1.out.nth 0 rfl) 5 (v := .string te) rfl
    go_wp2_with fail
    (with_reducible refine (kt _).mono ?_); rintro e1 W2 ⟨rfl, hb2⟩
    have HB2 := Lib.hid (HB1.out.below hb2)
    clear kt c0 c1 c2 c3 c4 c5 HB1 hb2
    have c0 := Blk.cell (HB2.out.nth 0 rfl) 0 (v := .int .i64 ma) rfl
    have c1 := Blk.cell (HB2.out.nth 0 rfl) 1 (v := .int .i64 d) rfl
    have c2 := Blk.cell (HB2.out.nth 0 rfl) 2 (v := .bool ta) rfl
    have c3 := Blk.cell (HB2.out.nth 0 rfl) 3 (v := .bool fr) rfl
    have c4 := Blk.cell (HB2.out.nth 0 rfl) 4 (v := .int .i64 a) rfl
    have c5 := Blk.cell (HB2.out.nth 0 rfl) 5 (v := .string te) rfl
    go_wp2_with fail
    (with_reducible refine (kf _).mono ?_); rintro e1 W3 ⟨rfl, hb3⟩
    have HB3 := Lib.hid (HB2.out.below hb3)
    go_wp2_with fail
    (with_reducible refine (ks _).mono ?_); rintro e1 W4 ⟨rfl, hb4⟩
    have hE := (HB3.out.below hb4).be
    go_wp2_with fail
    go_ret2
    exact ⟨rfl, hE⟩
  · have hE : p.enc = nob := by unfold Mp.enc; rw [if_neg h]
    rw [hE]
    obtain ⟨c, hc⟩ : ∃ c, p.chk = c := ⟨_, rfl⟩
    rw [hc] at h kc ⊢
    have t1 : (c != 0) = true := by simpa using h
    unfold Mp.vals at kc HB ⊢
    have c0 := Blk.cell (HB.out.nth 0 rfl) 0 (v := .int .i64 p.mac) rfl
    have c1 := Blk.cell (HB.out.nth 0 rfl) 1 (v := .int .i64 p.times.delta) rfl
    have c2 := Blk.cell (HB.out.nth 0 rfl) 2 (v := .bool p.times.table) rfl
    have c3 := Blk.cell (HB.out.nth 0 rfl) 3 (v := .bool p.times.frame) rfl
    have c4 := Blk.cell (HB.out.nth 0 rfl) 4 (v := .int .i64 p.times.at_) rfl
    have c5 := Blk.cell (HB.out.nth 0 rfl) 5 (v := .string p.text) rfl
    clear hE hc kt h hts
    go_enter Try.func11, Try.ntmps11
    go_wp2_with fail
    (with_reducible refine (kc _).mono ?_); rintro e1 W1 ⟨rfl, hb1⟩
    have hE := (HB.out.below hb1).be
    go_wp2_with fail
    go_ret2
    exact ⟨rfl, hE⟩
end Go.Proofs.Ytfadhgbhdoddpaa.MpA
