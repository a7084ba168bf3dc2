/- MpeTurned: the walk. -/
import Derived.Test.YtfadhgbhdoddpaaMpW
import Derived.Test.YtfadhgbhdoddpaaPkS
import Derived.Test.YtfadhgbhdoddpaaPkA
namespace Go.Proofs.Ytfadhgbhdoddpaa.MpZ
open Go Go.RowKit Go.Proofs.Ytfadhgbhdoddpaa.Q Go.Proofs.Ytfadhgbhdoddpaa.Mem Go.Proofs.Ytfadhgbhdoddpaa.Rg Go.Proofs.Ytfadhgbhdoddpaa.Ap Go.Proofs.Ytfadhgbhdoddpaa.St Go.Proofs.Ytfadhgbhdoddpaa.BiP Go.Proofs.Ytfadhgbhdoddpaa.SeA Go.Proofs.Ytfadhgbhdoddpaa.SeC Go.Proofs.Ytfadhgbhdoddpaa.SeE Go.Proofs.Ytfadhgbhdoddpaa.SeEq Go.Proofs.Ytfadhgbhdoddpaa.SeI Go.Proofs.Ytfadhgbhdoddpaa.SeP Go.Proofs.Ytfadhgbhdoddpaa.Turn Go.Proofs.Ytfadhgbhdoddpaa.TmA Go.Proofs.Ytfadhgbhdoddpaa.TmB Go.Proofs.Ytfadhgbhdoddpaa.MpA Go.Proofs.Ytfadhgbhdoddpaa.MpC Go.Proofs.Ytfadhgbhdoddpaa.MpD Go.Proofs.Ytfadhgbhdoddpaa.MpP Go.Proofs.Ytfadhgbhdoddpaa.MpW

/-- the beginning of a part's section is no part -/
theorem md_cut {p : Mp} (h : p.chk = 0) {i : Nat} (hi : i < p.enc.size) : mdE (p.enc.extract 0 i) ≠ 0 ∧ mdP (p.enc.extract 0 i) = zeroP := by
  have he : p.enc = bytesS p.sec := by unfold Mp.enc; rw [if_pos h]
  rw [he] at hi ⊢
  have h1 := cut_bad (sec_ok h) hi
  have h2 : mdE ((bytesS p.sec).extract 0 i) ≠ 0 := by unfold mdE; rw [if_pos h1]; exact h1
  exact ⟨h2, (md_zero rfl h2).2⟩
/-- with one byte turned it is none -/
theorem md_turn {p : Mp} (h : p.chk = 0) {i : Nat} {c d : UInt8} (hc : (bl p.enc)[i]? = some c) (hd : c ≠ d) : mdE (str ((bl p.enc).set i d)) ≠ 0 ∧ mdP (str ((bl p.enc).set i d)) = zeroP := by
  have he : p.enc = bytesS p.sec := by unfold Mp.enc; rw [if_pos h]
  rw [he] at hc ⊢
  have h1 := (turned_bad hc hd).1
  have h2 : mdE (str ((bl (bytesS p.sec)).set i d)) ≠ 0 := by unfold mdE; rw [if_pos h1]; exact h1
  exact ⟨h2, (md_zero rfl h2).2⟩
theorem cut_set (S : ByteArray) (i : Nat) (d : UInt8) (h : i < S.size) : S.extract 0 i ++ str [d] ++ S.extract (i + 1) S.size = str ((bl S).set i d) := by
  apply bl_inj
  rw [bl_app, bl_app, ext_bl, ext_bl, bl_str, bl_str, List.drop_zero, Nat.sub_zero, List.set_eq_take_append_cons_drop, if_pos (by rw [bl_len]; exact h), List.append_assoc, List.singleton_append, List.take_of_length_le (l := List.drop _ _) (by rw [List.length_drop, bl_len]; omega)]
set_option maxRecDepth 100000
set_option maxHeartbeats 3200000 in
theorem turned_any (p : Mp) (x y : Int) (hy : 0 ≤ y ∧ y < 256) (w : World) : Calls Try.prog 5 #[.agg p.vals, .int .i64 x, .int .u8 y] w fun e w' => e = .returned (.bool true) ∧ Below w.heap.size w w' := by
  have kaw := fun V => awake_any V
  have HB := Lib.hid (bk1 w 25 p.vals)
  have hz := fun V => eqTP zeroP zeroP V
  rw [decide_eq_true rfl] at hz
  by_cases h1 : 5000 < p.text.size
  · have t1 : decide (5000 < (p.text.size : Int)) = true := by simp; omega
    unfold Mp.vals at *
    have hbe := HB.out.be
    clear h1
    go_enter Try.func5, Try.ntmps5
    go_wp2_with fail
    (with_reducible refine (kaw _).mono ?_); rintro e1 W9 ⟨rfl, hb9⟩
    have hE := hbe.trans (hb9.mono hbe.size)
    go_wp2_with fail
    go_ret
    exact ⟨rfl, hE⟩
  have t1 : decide (5000 < (p.text.size : Int)) = false := by simp; omega
  by_cases hy0 : y = 0
  · subst hy0
    unfold Mp.vals at *
    have hbe := HB.out.be
    clear h1 hy
    have c0 := Blk.cell (HB.out.nth 0 rfl) 0 (v := .int .i64 p.mac) rfl
    have c1 := Blk.cell (HB.out.nth 0 rfl) 1 (v := .int .i64 p.times.delta) rfl
    have c2 := Blk.cell (HB.out.nth 0 rfl) 2 (v := .bool p.times.table) rfl
    have c3 := Blk.cell (HB.out.nth 0 rfl) 3 (v := .bool p.times.frame) rfl
    have c4 := Blk.cell (HB.out.nth 0 rfl) 4 (v := .int .i64 p.times.at_) rfl
    have c5 := Blk.cell (HB.out.nth 0 rfl) 5 (v := .string p.text) rfl
    go_enter Try.func5, Try.ntmps5
    go_wp2_with fail
    clear c0 c1 c2 c3 c4 c5
    (with_reducible refine (kaw _).mono ?_); rintro e1 W9 ⟨rfl, hb9⟩
    have hE := hbe.trans (hb9.mono hbe.size)
    go_wp2_with fail
    go_ret
    exact ⟨rfl, hE⟩
  have t7 : (y == 0) = false := by simpa using hy0
  have ke := fun V => menc_any p V (by omega)
  by_cases hc : p.chk = 0
  · have hsz := enc_size hc
    have hcut := fun i => @md_cut p hc i
    have htu := fun i c d => @md_turn p hc i c d
    have kd := fun t V (hs : t.size ≤ 1099511627776) => mdec_any t V hs
    rw [hc] at ke
    obtain ⟨S, hS⟩ : ∃ S, p.enc = S := ⟨_, rfl⟩
    rw [hS] at ke hsz hcut htu
    unfold Mp.vals at HB ke ⊢
    have hs5 : S.size ≤ 5016 := by omega
    have c0 := Blk.cell (HB.out.nth 0 rfl) 0 (v := .int .i64 p.mac) rfl
    have c1 := Blk.cell (HB.out.nth 0 rfl) 1 (v := .int .i64 p.times.delta) rfl
    have c2 := Blk.cell (HB.out.nth 0 rfl) 2 (v := .bool p.times.table) rfl
    have c3 := Blk.cell (HB.out.nth 0 rfl) 3 (v := .bool p.times.frame) rfl
    have c4 := Blk.cell (HB.out.nth 0 rfl) 4 (v := .int .i64 p.times.at_) rfl
    have c5 := Blk.cell (HB.out.nth 0 rfl) 5 (v := .string p.text) rfl
    clear hS hc h1
    by_cases hx0 : x < 0
    · have t4 : decide (x < 0) = true := by simpa using hx0
      clear hx0 hs5 hsz kd
      go_enter Try.func5, Try.ntmps5
      go_wp2_with fail
      (with_reducible refine (ke _).mono ?_); rintro e1 W1 ⟨rfl, hb1⟩
      have hbe := (HB.out.below hb1).be
      clear ke hb1 HB c0 c1 c2 c3 c4 c5
      go_wp2_with fail
      (with_reducible refine (kaw _).mono ?_); rintro e1 W9 ⟨rfl, hb9⟩
      have hE := hbe.trans (hb9.mono hbe.size)
      go_wp2_with fail
      go_ret
      exact ⟨rfl, hE⟩
    have t4 : decide (x < 0) = false := by simpa using hx0
    by_cases hx1 : (S.size : Int) ≤ x
    · have t5 : decide ((S.size : Int) ≤ x) = true := by simpa using hx1
      clear hx0 hx1 hs5 hsz kd
      go_enter Try.func5, Try.ntmps5
      go_wp2_with fail
      (with_reducible refine (ke _).mono ?_); rintro e1 W1 ⟨rfl, hb1⟩
      have hbe := (HB.out.below hb1).be
      clear ke hb1 HB c0 c1 c2 c3 c4 c5
      go_wp2_with fail
      (with_reducible refine (kaw _).mono ?_); rintro e1 W9 ⟨rfl, hb9⟩
      have hE := hbe.trans (hb9.mono hbe.size)
      go_wp2_with fail
      go_ret
      exact ⟨rfl, hE⟩
    have t5 : decide ((S.size : Int) ≤ x) = false := by simpa using hx1
    obtain ⟨i, rfl⟩ : ∃ i : Nat, x = (i : Int) := ⟨x.toNat, by omega⟩
    have hi : i < S.size := by omega
    have hx2 : (i : Int) ≤ (S.size : Int) := by omega
    have hx3 : ((i + 1 : Nat) : Int) ≤ (S.size : Int) := by omega
    have hx4 : (i : Int) ≤ 5016 := by omega
    obtain ⟨q, hq⟩ : ∃ q, (bl S)[i]? = some q := ⟨_, List.getElem?_eq_getElem (by rw [bl_len]; exact hi)⟩
    obtain ⟨r, hr, hqr⟩ := byte_turned q y (by rw [Int.tmod_eq_emod_of_nonneg hy.1]; omega)
    rw [show y % 256 = y by omega] at hr
    have hix := fun V => idx_at S i hi V
    rw [at_of hq] at hix
    obtain ⟨g1, g2⟩ := htu i q r hq hqr
    have hset := cut_set S i r hi
    have kd3 := fun V => kd (str ((bl S).set i r)) V (by rw [str_size, List.length_set, bl_len]; omega)
    rw [g2] at kd3
    obtain ⟨D2, hD2⟩ : ∃ D, mdE (str ((bl S).set i r)) = D := ⟨_, rfl⟩
    rw [hD2] at kd3 g1
    have t9 : (D2 != 0) = true := by simpa using g1
    obtain ⟨Z, hZ⟩ : ∃ Z, str ((bl S).set i r) = Z := ⟨_, rfl⟩
    rw [hZ] at kd3 hset
    have a1 := fun V => add_at (S.extract 0 i) (str [r]) (by rw [ByteArray.size_extract, str_size]; simp; omega) V
    have a2 := fun V => add_at (S.extract 0 i ++ str [r]) (S.extract (i + 1) S.size) (by rw [ByteArray.size_append, ByteArray.size_extract, ByteArray.size_extract, str_size]; simp; omega) V
    rw [hset] at a2
    obtain ⟨q', hq'⟩ : ∃ q' : Int, (q.toNat : Int) = q' := ⟨_, rfl⟩
    obtain ⟨r', hr'⟩ : ∃ r' : Int, (r.toNat : Int) = r' := ⟨_, rfl⟩
    have hstr : strOfNums [r'] = str [r] := by rw [nums_str, ← hr']; simp
    have hr0 : 0 ≤ r' ∧ r' < 256 := by have := r.toNat_lt; omega
    rw [hq', hr'] at hr
    rw [hq'] at hix
    rw [← hstr] at a1 a2
    obtain ⟨Y1, hY1⟩ : ∃ Y, S.extract 0 i ++ strOfNums [r'] = Y := ⟨_, rfl⟩
    rw [hY1] at a1 a2
    clear hx0 hx1 hs5 hsz hi htu hqr hq kd hset hD2 g1 g2 hZ hq' hr' hstr hY1
    unfold Mp.vals zeroP zeroT at *
    dsimp only at *
    go_enter Try.func5, Try.ntmps5
    go_wp2_with fail
    (with_reducible refine (ke _).mono ?_); rintro e1 W1 ⟨rfl, hb1⟩
    have HB1 := Lib.hid (HB.out.below hb1)
    clear ke hb1 HB c0 c1 c2 c3 c4 c5
    go_wp2_with fail
    refine Go.Proofs.Ytfadhgbhdoddpaa.RgX.region_x [(8, newS 1 5 #[.int .u8 r'] 0), (9, val (.string (strOfNums [r']))), (16, val (.tuple #[.agg zc, .int .i64 D2])), (20, newB 25 zc W1.heap.size)] 21 19 2 (by kernel_rfl) (by kernel_rfl) (by kernel_rfl) (by kernel_rfl) (lk_cons newS_inh (lk_cons val_inh (lk_cons val_inh (lk_cons newB_inh lk_nil)))) (lk_cons newS_mono (lk_cons val_mono (lk_cons val_mono (lk_cons newB_mono lk_nil)))) (fun _ d _ _ _ h => by cases d <;> exact h) ?_
    intro σ hσ
    simp only [List.take_succ_cons, List.take_zero, List.drop_succ_cons, List.drop_zero]
    have hσv : σ 9 = .string (strOfNums [r']) := hσ 9 _ rfl
    have hσd : σ 16 = .tuple #[.agg zc, .int .i64 D2] := hσ 16 _ rfl
    refine Go.Proofs.Ytfadhgbhdoddpaa.Rg.wpN_take 8 (by kernel_rfl) (by kernel_rfl) (by kernel_rfl) ?_
    simp only [List.take_succ_cons, List.take_zero, List.drop_succ_cons, List.drop_zero]
    repeat (go_big_quiet_step (fail))
    refine wpQuiet_nil ?_
    refine wpN_sp _ rfl (by kernel_rfl) (spAt_newS 1 5 #[.int .u8 r'] (Nat.zero_le _) (by intro w0; go_simp)) ?_
    simp only [Act.put, List.setIfInBounds_toArray, List.set_cons_zero, List.set_cons_succ]
    refine wpN_sp _ rfl (by kernel_rfl) (spAt_read (fun p hd => ?_)) ?_
    · obtain ⟨g, hg, _, hblk⟩ := dep_at hd 8 rfl (by kernel_rfl)
      have hcv2 := run_convert_bytes_arg (P := Try.prog) (ext _ p) 40 5 Try.underlying40 Try.underlying5 g 0 1 1 [r'] rfl (fun j hj => by
        match j, hj with
        | 0, _ => exact Blk.cell hblk 0 rfl) _ Try.underlying9
      rw [hg]
      go_simp
    simp only [Act.put, List.setIfInBounds_toArray, List.set_cons_zero, List.set_cons_succ]
    rw [hσv]
    refine Go.Proofs.Ytfadhgbhdoddpaa.Rg.wpN_take 6 (by kernel_rfl) (by kernel_rfl) (by kernel_rfl) ?_
    simp only [List.take_succ_cons, List.take_zero, List.drop_succ_cons, List.drop_zero]
    repeat (go_big_quiet_step (fail))
    refine wpQuiet_nil ?_
    refine wpN_sp _ rfl (by kernel_rfl) (spAt_val (f := 17) (args := #[.string Z]) (by intro w0; go_simp) (fun p _ => kd3 _)) ?_
    simp only [Act.put, List.setIfInBounds_toArray, List.set_cons_zero, List.set_cons_succ]
    rw [hσd]
    refine Go.Proofs.Ytfadhgbhdoddpaa.Rg.wpN_take 2 (by kernel_rfl) (by kernel_rfl) (by kernel_rfl) ?_
    simp only [List.take_succ_cons, List.take_zero, List.drop_succ_cons, List.drop_zero]
    repeat (go_big_quiet_step (fail))
    refine wpQuiet_nil ?_
    refine wpN_nil ?_
    refine ⟨_, .int .i64 D2, rfl, Or.inl ⟨by kernel_rfl, fun w => by go_simp⟩, rfl, ?_⟩
    simp only [List.setIfInBounds_toArray, List.set_cons_zero, List.set_cons_succ]
    refine wpN_sp _ rfl (by kernel_rfl) (spAt_newB 25 zc (Nat.le_refl _) (fun _ => rfl)) ?_
    simp only [Act.put, List.setIfInBounds_toArray, List.set_cons_zero, List.set_cons_succ]
    refine wpN_nil ?_
    rintro w9 ⟨pq, rfl⟩ hp
    obtain ⟨gx, hgx, hgl, hgb⟩ := hp 20 _ rfl
    rw [hgx]
    have HB3 := Lib.hid (HB1.out.px pq)
    have HG0 := Lib.hid (show w.heap.size ≤ gx from Nat.le_trans HB1.out.be.size hgl)
    clear hσ hσv hσd HB1 kd3 a1 a2 hix hr hp
    refine Go.Proofs.Ytfadhgbhdoddpaa.RgA.wpAny_seq 21 (by kernel_rfl) (by kernel_rfl) ?_
    simp only [List.drop_succ_cons, List.drop_zero]
    refine wpList_store_blk (g := gx) (T := 25) (cs' := zc) rfl 25 _ _ rfl rfl rfl hgb (by kernel_rfl) (by kernel_rfl) (by kernel_rfl) (by kernel_rfl) ?_
    intro V hV hgr hsz
    have HV := Lib.hid (show Bk w V [(gx, 25, zc)] from ⟨HB3.out.be.trans (below_of_only hgr HB3.out.size (fun k hk => by injection hk with hk; have := HG0.out; omega)), fun x hx => by
      rcases List.mem_cons.1 hx with rfl | hx
      · exact hV
      · cases hx⟩)
    have hbe := HV.out.be
    clear hV hgr hsz HB3 hgb hgl hgx
    have d0 := Blk.cell (HV.out.nth 0 rfl) 0 (v := .int .i64 0) rfl
    have d1 := Blk.cell (HV.out.nth 0 rfl) 1 (v := .int .i64 0) rfl
    have d2 := Blk.cell (HV.out.nth 0 rfl) 2 (v := .bool false) rfl
    have d3 := Blk.cell (HV.out.nth 0 rfl) 3 (v := .bool false) rfl
    have d4 := Blk.cell (HV.out.nth 0 rfl) 4 (v := .int .i64 0) rfl
    have d5 := Blk.cell (HV.out.nth 0 rfl) 5 (v := .string nob) rfl
    go_wp2_with fail
    (with_reducible refine (kaw _).mono ?_); rintro e1 W9 ⟨rfl, hb9⟩
    have hE := hbe.trans (hb9.mono hbe.size)
    go_wp2_with fail
    go_ret
    exact ⟨rfl, hE⟩
  · obtain ⟨c, hcc⟩ : ∃ c, p.chk = c := ⟨_, rfl⟩
    obtain ⟨S, hS⟩ : ∃ S, p.enc = S := ⟨_, rfl⟩
    rw [hcc, hS] at ke
    rw [hcc] at hc
    have t3 : (c != 0) = true := by simpa using hc
    unfold Mp.vals at HB ke ⊢
    have c0 := Blk.cell (HB.out.nth 0 rfl) 0 (v := .int .i64 p.mac) rfl
    have c1 := Blk.cell (HB.out.nth 0 rfl) 1 (v := .int .i64 p.times.delta) rfl
    have c2 := Blk.cell (HB.out.nth 0 rfl) 2 (v := .bool p.times.table) rfl
    have c3 := Blk.cell (HB.out.nth 0 rfl) 3 (v := .bool p.times.frame) rfl
    have c4 := Blk.cell (HB.out.nth 0 rfl) 4 (v := .int .i64 p.times.at_) rfl
    have c5 := Blk.cell (HB.out.nth 0 rfl) 5 (v := .string p.text) rfl
    clear hS hc hcc h1
    go_enter Try.func5, Try.ntmps5
    go_wp2_with fail
    (with_reducible refine (ke _).mono ?_); rintro e1 W1 ⟨rfl, hb1⟩
    have hbe := (HB.out.below hb1).be
    clear ke hb1 HB c0 c1 c2 c3 c4 c5
    go_wp2_with fail
    (with_reducible refine (kaw _).mono ?_); rintro e1 W9 ⟨rfl, hb9⟩
    have hE := hbe.trans (hb9.mono hbe.size)
    go_wp2_with fail
    go_ret
    exact ⟨rfl, hE⟩
end Go.Proofs.Ytfadhgbhdoddpaa.MpZ
