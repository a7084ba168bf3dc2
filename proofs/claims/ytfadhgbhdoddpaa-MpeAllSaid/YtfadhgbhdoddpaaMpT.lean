/- The document's Decode of a part. -/
import Derived.Test.YtfadhgbhdoddpaaMpS
import Derived.Test.YtfadhgbhdoddpaaPkS
namespace Go.Proofs.Ytfadhgbhdoddpaa.MpT
open Go Go.RowKit Go.Proofs.Ytfadhgbhdoddpaa.Q Go.Proofs.Ytfadhgbhdoddpaa.Mem Go.Proofs.Ytfadhgbhdoddpaa.Rg Go.Proofs.Ytfadhgbhdoddpaa.Ap Go.Proofs.Ytfadhgbhdoddpaa.St Go.Proofs.Ytfadhgbhdoddpaa.BiP Go.Proofs.Ytfadhgbhdoddpaa.BiH Go.Proofs.Ytfadhgbhdoddpaa.SeA Go.Proofs.Ytfadhgbhdoddpaa.SeC Go.Proofs.Ytfadhgbhdoddpaa.SeE Go.Proofs.Ytfadhgbhdoddpaa.SeEq Go.Proofs.Ytfadhgbhdoddpaa.SeG Go.Proofs.Ytfadhgbhdoddpaa.SeI Go.Proofs.Ytfadhgbhdoddpaa.SeI2 Go.Proofs.Ytfadhgbhdoddpaa.SeP Go.Proofs.Ytfadhgbhdoddpaa.TmA Go.Proofs.Ytfadhgbhdoddpaa.TmB Go.Proofs.Ytfadhgbhdoddpaa.MpA Go.Proofs.Ytfadhgbhdoddpaa.MpC Go.Proofs.Ytfadhgbhdoddpaa.MpD Go.Proofs.Ytfadhgbhdoddpaa.DgC Go.Proofs.Ytfadhgbhdoddpaa.DgG Go.Proofs.Ytfadhgbhdoddpaa.MpR

set_option maxRecDepth 100000
theorem rmd_bad (t : ByteArray) (w : World) (hs : t.size ≤ 1099511627776) (h : decE t ≠ 0) : Calls Try.prog 19 #[.string t] w fun e w' => e = .returned (.tuple #[.agg (mdP t).vals, .int .i64 (mdE t)]) ∧ Below w.heap.size w w' := by
  have kd := fun V => rdecode_any t V hs
  have HB := Lib.hid (bk1 w 32 zc)
  have hE : mdE t = decE t := by unfold mdE; rw [if_pos h]
  obtain ⟨c, hc⟩ : ∃ c, decE t = c := ⟨_, rfl⟩
  rw [hc] at kd h hE
  have HE := Lib.hid (md_zero hE h)
  have t1 : (c != 0) = true := by simpa using h
  obtain ⟨s, hse⟩ : ∃ s, decS t = s := ⟨_, rfl⟩
  rw [hse] at kd
  unfold Sc.vals at kd
  clear hE hc hse h
  go_enter Try.func19, Try.ntmps19
  go_wp2_with fail
  (with_reducible refine (kd _).mono ?_); rintro e1 W1 ⟨rfl, hb1⟩
  have HB1 := Lib.hid ((HB.out.below hb1).new 67 s.vals)
  have hgw : w.heap.size < W1.heap.size := (HB.out.below hb1).lt 0 rfl
  have HBE := Lib.hid HB1.out.be
  unfold Sc.vals at HB1 HBE
  clear kd HB hb1
  go_wp2_with (refine wpList_store_blk (g := w.heap.size) (T := 32) (cs' := zc) rfl 32 _ _ rfl rfl rfl (HB1.out.nth 1 rfl) (by kernel_rfl) (by kernel_rfl) (by kernel_rfl) (by kernel_rfl) ?_; intro W9 hW9 hg9 hz9)
  have hVE := HBE.out.trans (below_of_only hg9 HBE.out.size (fun k hk => by injection hk with hk; omega))
  exact bodyPost_ret (v := .tuple #[.agg zc, .int .i64 c]) (by refine res_row (fn := Try.f19) (p := 2) (q := 3) rfl _ _ w.heap.size 32 _ (0, 0) _ ?_ hW9 Try.underlying32 rfl (by kernel_rfl); rfl) rfl ⟨by first | (rw [HE.out.1, HE.out.2]; rfl), hVE⟩
theorem rmd_kind (t : ByteArray) (w : World) (hs : t.size ≤ 1099511627776) (h : decE t = 0) (h1 : (decS t).table ≠ 62) : Calls Try.prog 19 #[.string t] w fun e w' => e = .returned (.tuple #[.agg (mdP t).vals, .int .i64 (mdE t)]) ∧ Below w.heap.size w w' := by
  have kd := fun V => rdecode_any t V hs
  have HB := Lib.hid (bk1 w 32 zc)
  have HE := Lib.hid (md_zero (t := t) (c := 14) (by unfold mdE; rw [if_neg (by simpa using h)]; unfold secE; rw [if_pos h1]) (by decide))
  rw [h] at kd
  obtain ⟨s, hse⟩ : ∃ s, decS t = s := ⟨_, rfl⟩
  rw [hse] at kd h1
  have t1 : (s.table != 62) = true := by simpa using h1
  unfold Sc.vals at kd
  clear hse h h1
  go_enter Try.func19, Try.ntmps19
  go_wp2_with fail
  (with_reducible refine (kd _).mono ?_); rintro e1 W1 ⟨rfl, hb1⟩
  have HB1 := Lib.hid ((HB.out.below hb1).new 67 s.vals)
  have hgw : w.heap.size < W1.heap.size := (HB.out.below hb1).lt 0 rfl
  have HBE := Lib.hid HB1.out.be
  unfold Sc.vals at HB1 HBE
  clear kd HB hb1
  go_wp2_with (refine wpList_store_blk (g := w.heap.size) (T := 32) (cs' := zc) rfl 32 _ _ rfl rfl rfl (HB1.out.nth 1 rfl) (by kernel_rfl) (by kernel_rfl) (by kernel_rfl) (by kernel_rfl) ?_; intro W9 hW9 hg9 hz9)
  have hVE := HBE.out.trans (below_of_only hg9 HBE.out.size (fun k hk => by injection hk with hk; omega))
  exact bodyPost_ret (v := .tuple #[.agg zc, .int .i64 14]) (by refine res_row (fn := Try.f19) (p := 2) (q := 3) rfl _ _ w.heap.size 32 _ (0, 0) _ ?_ hW9 Try.underlying32 rfl (by kernel_rfl); rfl) rfl ⟨by first | (rw [HE.out.1, HE.out.2]; rfl), hVE⟩
set_option maxHeartbeats 800000 in
theorem rmd_form (t : ByteArray) (w : World) (hs : t.size ≤ 1099511627776) (h : decE t = 0) (h1 : (decS t).table = 62) (h2 : ¬ frm (decS t)) : Calls Try.prog 19 #[.string t] w fun e w' => e = .returned (.tuple #[.agg (mdP t).vals, .int .i64 (mdE t)]) ∧ Below w.heap.size w w' := by
  have kd := fun V => rdecode_any t V hs
  have HB := Lib.hid (bk1 w 32 zc)
  have HE := Lib.hid (md_zero (t := t) (c := 12) (by unfold mdE; rw [if_neg (by simpa using h)]; unfold secE; rw [if_neg (by simpa using h1), if_pos h2]) (by decide))
  have hr := chk_zero (dec_enc h).1
  obtain ⟨_, ⟨rb1, rb2⟩, _⟩ := hr.1
  rw [h] at kd
  obtain ⟨s, hse⟩ : ∃ s, decS t = s := ⟨_, rfl⟩
  rw [hse] at kd h1 h2 rb1 rb2
  have t1 : (s.table != 62) = false := by simpa using h1
  unfold Sc.vals at kd
  unfold frm at h2
  have H2 := Lib.hid h2
  clear hse h h1 h2 hr
  obtain ⟨ta, pr, ex, ve, no, nu, la, bo⟩ := s
  dsimp only at *
  cases pr with
  | true =>
    clear H2
    go_enter Try.func19, Try.ntmps19
    go_wp2_with fail
    (with_reducible refine (kd _).mono ?_); rintro e1 W1 ⟨rfl, hb1⟩
    have HB1 := Lib.hid ((HB.out.below hb1).new 67 #[.int .i64 ta, .bool true, .int .i64 ex, .int .i64 ve, .bool no, .int .i64 nu, .int .i64 la, .string bo])
    have HBE := Lib.hid HB1.out.be
    clear kd HB hb1
    go_wp2_with (refine wpList_store_blk (g := w.heap.size) (T := 32) (cs' := zc) rfl 32 _ _ rfl rfl rfl (HB1.out.nth 1 rfl) (by kernel_rfl) (by kernel_rfl) (by kernel_rfl) (by kernel_rfl) ?_; intro W9 hW9 hg9 hz9)
    have hVE := HBE.out.trans (below_of_only hg9 HBE.out.size (fun k hk => by injection hk with hk; omega))
    exact bodyPost_ret (v := .tuple #[.agg zc, .int .i64 12]) (by refine res_row (fn := Try.f19) (p := 2) (q := 3) rfl _ _ w.heap.size 32 _ (0, 0) _ ?_ hW9 Try.underlying32 rfl (by kernel_rfl); rfl) rfl ⟨by first | (rw [HE.out.1, HE.out.2]; rfl), hVE⟩
  | false =>
    by_cases p2 : ve = 0
    · have t3 : (ve != 0) = false := by simp [p2]
      cases no with
      | false =>
        clear H2 p2
        go_enter Try.func19, Try.ntmps19
        go_wp2_with fail
        (with_reducible refine (kd _).mono ?_); rintro e1 W1 ⟨rfl, hb1⟩
        have HB1 := Lib.hid ((HB.out.below hb1).new 67 #[.int .i64 ta, .bool false, .int .i64 ex, .int .i64 ve, .bool false, .int .i64 nu, .int .i64 la, .string bo])
        have HBE := Lib.hid HB1.out.be
        clear kd HB hb1
        go_wp2_with (refine wpList_store_blk (g := w.heap.size) (T := 32) (cs' := zc) rfl 32 _ _ rfl rfl rfl (HB1.out.nth 1 rfl) (by kernel_rfl) (by kernel_rfl) (by kernel_rfl) (by kernel_rfl) ?_; intro W9 hW9 hg9 hz9)
        have hVE := HBE.out.trans (below_of_only hg9 HBE.out.size (fun k hk => by injection hk with hk; omega))
        exact bodyPost_ret (v := .tuple #[.agg zc, .int .i64 12]) (by refine res_row (fn := Try.f19) (p := 2) (q := 3) rfl _ _ w.heap.size 32 _ (0, 0) _ ?_ hW9 Try.underlying32 rfl (by kernel_rfl); rfl) rfl ⟨by first | (rw [HE.out.1, HE.out.2]; rfl), hVE⟩
      | true =>
        by_cases p4 : nu = 0
        · have t4 : (nu != 0) = false := by simp [p4]
          have t5 : (la != 0) = true := by simp; intro h; exact H2.out ⟨rfl, p2, rfl, p4, h⟩
          clear H2 p2 p4
          go_enter Try.func19, Try.ntmps19
          go_wp2_with fail
          (with_reducible refine (kd _).mono ?_); rintro e1 W1 ⟨rfl, hb1⟩
          have HB1 := Lib.hid ((HB.out.below hb1).new 67 #[.int .i64 ta, .bool false, .int .i64 ex, .int .i64 ve, .bool true, .int .i64 nu, .int .i64 la, .string bo])
          have HBE := Lib.hid HB1.out.be
          clear kd HB hb1
          go_wp2_with (refine wpList_store_blk (g := w.heap.size) (T := 32) (cs' := zc) rfl 32 _ _ rfl rfl rfl (HB1.out.nth 1 rfl) (by kernel_rfl) (by kernel_rfl) (by kernel_rfl) (by kernel_rfl) ?_; intro W9 hW9 hg9 hz9)
          have hVE := HBE.out.trans (below_of_only hg9 HBE.out.size (fun k hk => by injection hk with hk; omega))
          exact bodyPost_ret (v := .tuple #[.agg zc, .int .i64 12]) (by refine res_row (fn := Try.f19) (p := 2) (q := 3) rfl _ _ w.heap.size 32 _ (0, 0) _ ?_ hW9 Try.underlying32 rfl (by kernel_rfl); rfl) rfl ⟨by first | (rw [HE.out.1, HE.out.2]; rfl), hVE⟩
        · have t4 : (nu != 0) = true := by simpa using p4
          clear H2 p2 p4
          go_enter Try.func19, Try.ntmps19
          go_wp2_with fail
          (with_reducible refine (kd _).mono ?_); rintro e1 W1 ⟨rfl, hb1⟩
          have HB1 := Lib.hid ((HB.out.below hb1).new 67 #[.int .i64 ta, .bool false, .int .i64 ex, .int .i64 ve, .bool true, .int .i64 nu, .int .i64 la, .string bo])
          have HBE := Lib.hid HB1.out.be
          clear kd HB hb1
          go_wp2_with (refine wpList_store_blk (g := w.heap.size) (T := 32) (cs' := zc) rfl 32 _ _ rfl rfl rfl (HB1.out.nth 1 rfl) (by kernel_rfl) (by kernel_rfl) (by kernel_rfl) (by kernel_rfl) ?_; intro W9 hW9 hg9 hz9)
          have hVE := HBE.out.trans (below_of_only hg9 HBE.out.size (fun k hk => by injection hk with hk; omega))
          exact bodyPost_ret (v := .tuple #[.agg zc, .int .i64 12]) (by refine res_row (fn := Try.f19) (p := 2) (q := 3) rfl _ _ w.heap.size 32 _ (0, 0) _ ?_ hW9 Try.underlying32 rfl (by kernel_rfl); rfl) rfl ⟨by first | (rw [HE.out.1, HE.out.2]; rfl), hVE⟩
    · have t3 : (ve != 0) = true := by simpa using p2
      clear H2 p2
      go_enter Try.func19, Try.ntmps19
      go_wp2_with fail
      (with_reducible refine (kd _).mono ?_); rintro e1 W1 ⟨rfl, hb1⟩
      have HB1 := Lib.hid ((HB.out.below hb1).new 67 #[.int .i64 ta, .bool false, .int .i64 ex, .int .i64 ve, .bool no, .int .i64 nu, .int .i64 la, .string bo])
      have HBE := Lib.hid HB1.out.be
      clear kd HB hb1
      go_wp2_with (refine wpList_store_blk (g := w.heap.size) (T := 32) (cs' := zc) rfl 32 _ _ rfl rfl rfl (HB1.out.nth 1 rfl) (by kernel_rfl) (by kernel_rfl) (by kernel_rfl) (by kernel_rfl) ?_; intro W9 hW9 hg9 hz9)
      have hVE := HBE.out.trans (below_of_only hg9 HBE.out.size (fun k hk => by injection hk with hk; omega))
      exact bodyPost_ret (v := .tuple #[.agg zc, .int .i64 12]) (by refine res_row (fn := Try.f19) (p := 2) (q := 3) rfl _ _ w.heap.size 32 _ (0, 0) _ ?_ hW9 Try.underlying32 rfl (by kernel_rfl); rfl) rfl ⟨by first | (rw [HE.out.1, HE.out.2]; rfl), hVE⟩
theorem rmd_short (t : ByteArray) (w : World) (hs : t.size ≤ 1099511627776) (h : decE t = 0) (h1 : (decS t).table = 62) (h2 : frm (decS t)) (h3 : (decS t).body.size < 4) : Calls Try.prog 19 #[.string t] w fun e w' => e = .returned (.tuple #[.agg (mdP t).vals, .int .i64 (mdE t)]) ∧ Below w.heap.size w w' := by
  have kd := fun V => rdecode_any t V hs
  have HB := Lib.hid (bk1 w 32 zc)
  have HE := Lib.hid (md_zero (t := t) (c := 10) (by unfold mdE; rw [if_neg (by simpa using h)]; unfold secE; rw [if_neg (by simpa using h1), if_neg (by simpa using h2), if_pos h3]) (by decide))
  have hr := chk_zero (dec_enc h).1
  obtain ⟨_, ⟨rb1, rb2⟩, _⟩ := hr.1
  have hbs := hr.2
  rw [h] at kd
  clear hr
  obtain ⟨s, hse⟩ : ∃ s, decS t = s := ⟨_, rfl⟩
  rw [hse] at kd h1 h2 h3 rb1 rb2 hbs
  clear hse h
  obtain ⟨ta, pr, ex, ve, no, nu, la, bo⟩ := s
  unfold Sc.vals at *
  unfold frm at h2
  dsimp only at *
  obtain ⟨rfl, rfl, rfl, rfl, rfl⟩ := h2
  subst h1
  obtain ⟨ex, rfl⟩ : ∃ n : Nat, ex = (n : Int) := ⟨ex.toNat, by omega⟩
  have t3 : decide ((bo.size : Int) < 4) = true := by simp; omega
  clear rb1 rb2 hbs h3
  go_enter Try.func19, Try.ntmps19
  go_wp2_with fail
  (with_reducible refine (kd _).mono ?_); rintro e1 W1 ⟨rfl, hb1⟩
  have HB1 := Lib.hid ((HB.out.below hb1).new 67 #[.int .i64 62, .bool false, .int .i64 (ex : Int), .int .i64 0, .bool true, .int .i64 0, .int .i64 0, .string bo])
  have hgw : w.heap.size < W1.heap.size := (HB.out.below hb1).lt 0 rfl
  have HBE := Lib.hid HB1.out.be
  clear kd HB hb1
  go_wp2_with (refine wpList_store_blk (g := w.heap.size) (T := 32) (cs' := zc) rfl 32 _ _ rfl rfl rfl (HB1.out.nth 1 rfl) (by kernel_rfl) (by kernel_rfl) (by kernel_rfl) (by kernel_rfl) ?_; intro W9 hW9 hg9 hz9)
  have hVE := HBE.out.trans (below_of_only hg9 HBE.out.size (fun k hk => by injection hk with hk; omega))
  exact bodyPost_ret (v := .tuple #[.agg zc, .int .i64 10]) (by refine res_row (fn := Try.f19) (p := 2) (q := 3) rfl _ _ w.heap.size 32 _ (0, 0) _ ?_ hW9 Try.underlying32 rfl (by kernel_rfl); rfl) rfl ⟨by first | (rw [HE.out.1, HE.out.2]; rfl), hVE⟩
set_option maxHeartbeats 1600000 in
theorem rmd_go (t : ByteArray) (w : World) (hs : t.size ≤ 1099511627776) (h : decE t = 0) (h1 : (decS t).table = 62) (h2 : frm (decS t)) (h3 : ¬ (decS t).body.size < 4) : Calls Try.prog 19 #[.string t] w fun e w' => e = .returned (.tuple #[.agg (mdP t).vals, .int .i64 (mdE t)]) ∧ Below w.heap.size w w' := by
  have kd := fun V => rdecode_any t V hs
  have HB := Lib.hid (bk1 w 32 zc)
  have hE : mdE t = (mpOf (decS t)).chk := by unfold mdE; rw [if_neg (by simpa using h)]; unfold secE; rw [if_neg (by simpa using h1), if_neg (by simpa using h2), if_neg h3]
  have hP : mdP t = if mdE t = 0 then mpOf (decS t) else zeroP := rfl
  have hr := chk_zero (dec_enc h).1
  obtain ⟨_, ⟨rb1, rb2⟩, _⟩ := hr.1
  have hbs := hr.2
  rw [h] at kd
  clear hr
  obtain ⟨s, hse⟩ : ∃ s, decS t = s := ⟨_, rfl⟩
  rw [hse] at kd h1 h2 h3 hE hP rb1 rb2 hbs
  clear hse h
  have kc := fun V => rcheck_any (s.body.extract 4 s.body.size) V (by rw [ByteArray.size_extract]; omega)
  have hD : (mpOf s).chk = dgE (s.body.extract 4 s.body.size) := by unfold Mp.chk; rw [if_pos ⟨show 0 ≤ s.ext ∧ s.ext ≤ 65535 by omega, tmD_ok _⟩]; rfl
  rw [← hD, ← hE] at kc
  obtain ⟨c, hc⟩ : ∃ c, mdE t = c := ⟨_, rfl⟩
  rw [hc] at kc hP
  have HC := Lib.hid hc
  obtain ⟨ta, pr, ex, ve, no, nu, la, bo⟩ := s
  unfold Sc.vals at *
  unfold frm at h2
  dsimp only at *
  obtain ⟨rfl, rfl, rfl, rfl, rfl⟩ := h2
  subst h1
  obtain ⟨ex, rfl⟩ : ∃ n : Nat, ex = (n : Int) := ⟨ex.toNat, by omega⟩
  have t3 : decide ((bo.size : Int) < 4) = false := by simp; omega
  have t4 : (4 : Int) ≤ (bo.size : Int) := by omega
  have i0 : ∀ V : World, (Instr.index 9 (.string bo) (.int .i64 0)).run Try.prog V = .ok (.int .u8 (at0 bo 0 : Int)) V := fun V => idx_at bo 0 (by omega) V
  have i1 : ∀ V : World, (Instr.index 9 (.string bo) (.int .i64 1)).run Try.prog V = .ok (.int .u8 (at0 bo 1 : Int)) V := fun V => idx_at bo 1 (by omega) V
  have i2 : ∀ V : World, (Instr.index 9 (.string bo) (.int .i64 2)).run Try.prog V = .ok (.int .u8 (at0 bo 2 : Int)) V := fun V => idx_at bo 2 (by omega) V
  have i3 : ∀ V : World, (Instr.index 9 (.string bo) (.int .i64 3)).run Try.prog V = .ok (.int .u8 (at0 bo 3 : Int)) V := fun V => idx_at bo 3 (by omega) V
  have l0 := at0_lt bo 0
  have l1 := at0_lt bo 1
  have l2 := at0_lt bo 2
  have l3 := at0_lt bo 3
  have hF : (mpOf ⟨62, false, (ex : Int), 0, true, 0, 0, bo⟩).vals = #[.int .i64 (ex : Int), .int .i64 (16 * (at0 bo 0 : Int) + (at0 bo 1 : Int) / 16), .bool (decide (at0 bo 1 / 8 % 2 = 1)), .bool (decide (at0 bo 1 / 4 % 2 = 1)), .int .i64 ((at0 bo 1 : Int) % 4 * 65536 + 256 * (at0 bo 2 : Int) + (at0 bo 3 : Int)), .string (bo.extract 4 bo.size)] := by
    unfold Mp.vals mpOf tmD
    dsimp only
    rw [at0_take bo 4 0 (by omega) (by omega), at0_take bo 4 1 (by omega) (by omega), at0_take bo 4 2 (by omega) (by omega), at0_take bo 4 3 (by omega) (by omega)]
    have e1 : ((at0 bo 0 * 16 + at0 bo 1 / 16 : Nat) : Int) = 16 * (at0 bo 0 : Int) + (at0 bo 1 : Int) / 16 := by omega
    have e2 : ((at0 bo 1 % 4 * 65536 + at0 bo 2 * 256 + at0 bo 3 : Nat) : Int) = (at0 bo 1 : Int) % 4 * 65536 + 256 * (at0 bo 2 : Int) + (at0 bo 3 : Int) := by omega
    rw [e1, e2]
  obtain ⟨b0, e0⟩ : ∃ x, at0 bo 0 = x := ⟨_, rfl⟩
  obtain ⟨b1, e1⟩ : ∃ x, at0 bo 1 = x := ⟨_, rfl⟩
  obtain ⟨b2, e2⟩ : ∃ x, at0 bo 2 = x := ⟨_, rfl⟩
  obtain ⟨b3, e3⟩ : ∃ x, at0 bo 3 = x := ⟨_, rfl⟩
  rw [e0] at i0 l0 hF
  rw [e1] at i1 l1 hF
  rw [e2] at i2 l2 hF
  rw [e3] at i3 l3 hF
  have q0 := wrap63 b0 (by omega)
  have q1 := wrap63 b1 (by omega)
  have q2 := wrap63 b2 (by omega)
  have q3 := wrap63 b3 (by omega)
  have hb1 : ((b1 : Int) / 8 % 2 == 1) = decide (b1 / 8 % 2 = 1) := by
    by_cases hx : b1 / 8 % 2 = 1 <;> simp [hx] <;> omega
  have hb2 : ((b1 : Int) / 4 % 2 == 1) = decide (b1 / 4 % 2 = 1) := by
    by_cases hx : b1 / 4 % 2 = 1 <;> simp [hx] <;> omega
  obtain ⟨B1, eb1⟩ : ∃ x, decide (b1 / 8 % 2 = 1) = x := ⟨_, rfl⟩
  obtain ⟨B2, eb2⟩ : ∃ x, decide (b1 / 4 % 2 = 1) = x := ⟨_, rfl⟩
  rw [eb1] at hb1 hF
  rw [eb2] at hb2 hF
  have HF := Lib.hid hF
  have HP := Lib.hid hP
  have z0 : (b0 : Int) ≤ 255 := by omega
  have z1 : (b1 : Int) ≤ 255 := by omega
  have z2 : (b2 : Int) ≤ 255 := by omega
  have z3 : (b3 : Int) ≤ 255 := by omega
  have zx : (ex : Int) ≤ 65535 := by omega
  clear rb1 rb2 hbs h3 hE hD hP hc hF eb1 eb2 e0 e1 e2 e3 l0 l1 l2 l3
  go_enter Try.func19, Try.ntmps19
  go_wp2_with fail
  (with_reducible refine (kd _).mono ?_); rintro e1 W1 ⟨rfl, hb1⟩
  have HB1 := Lib.hid ((HB.out.below hb1).new 67 #[.int .i64 62, .bool false, .int .i64 (ex : Int), .int .i64 0, .bool true, .int .i64 0, .int .i64 0, .string bo])
  have hgw : w.heap.size < W1.heap.size := (HB.out.below hb1).lt 0 rfl
  have HBE := Lib.hid HB1.out.be
  clear kd HB hb1
  go_wp2_with fail
  have d0 := fun pX => Blk.cell (blk_ext (HB1.out.nth 0 rfl) pX) 0 (v := .int .i64 62) rfl
  have d1 := fun pX => Blk.cell (blk_ext (HB1.out.nth 0 rfl) pX) 1 (v := .bool false) rfl
  have d2 := fun pX => Blk.cell (blk_ext (HB1.out.nth 0 rfl) pX) 2 (v := .int .i64 (ex : Int)) rfl
  have d3 := fun pX => Blk.cell (blk_ext (HB1.out.nth 0 rfl) pX) 3 (v := .int .i64 0) rfl
  have d4 := fun pX => Blk.cell (blk_ext (HB1.out.nth 0 rfl) pX) 4 (v := .bool true) rfl
  have d5 := fun pX => Blk.cell (blk_ext (HB1.out.nth 0 rfl) pX) 5 (v := .int .i64 0) rfl
  have d6 := fun pX => Blk.cell (blk_ext (HB1.out.nth 0 rfl) pX) 6 (v := .int .i64 0) rfl
  have d7 := fun pX => Blk.cell (blk_ext (HB1.out.nth 0 rfl) pX) 7 (v := .string bo) rfl
  refine Go.Proofs.Ytfadhgbhdoddpaa.Rg.region_new [(33, newB 32 zc (W1.heap.size + 1))] 34 (by kernel_rfl) (by kernel_rfl) (by kernel_rfl) (lk_cons newB_inh lk_nil) (lk_cons newB_mono lk_nil) ?_
  intro σ hσ
  simp only [List.take_succ_cons, List.take_zero, List.drop_succ_cons, List.drop_zero]
  refine Go.Proofs.Ytfadhgbhdoddpaa.Rg.wpN_take 33 (by kernel_rfl) (by kernel_rfl) (by kernel_rfl) ?_
  simp only [List.take_succ_cons, List.take_zero, List.drop_succ_cons, List.drop_zero]
  repeat (go_big_quiet_step (fail))
  refine wpQuiet_nil ?_
  refine wpN_sp _ rfl (by kernel_rfl) (spAt_newB 32 zc (by simp) (fun _ => rfl)) ?_
  simp only [Act.put, List.setIfInBounds_toArray, List.set_cons_zero, List.set_cons_succ]
  refine wpN_nil ?_
  rintro w9 ⟨pq, rfl⟩ hp
  obtain ⟨gx, hgx, hgl, hgb⟩ := hp 33 _ rfl
  rw [hgx]
  refine wpList_store_blk (cs' := #[.int .i64 (ex : Int), .int .i64 (16 * (b0 : Int) + (b1 : Int) / 16), .bool B1, .bool B2, .int .i64 ((b1 : Int) % 4 * 65536 + 256 * (b2 : Int) + (b3 : Int)), .string (bo.extract 4 bo.size)]) rfl 32 _ _ rfl rfl rfl hgb (by kernel_rfl) (by kernel_rfl) (by kernel_rfl) (by kernel_rfl) ?_
  intro V hV hgr hsz
  have HB4 := HB1.out.px pq
  have HV := Lib.hid (show Bk w V [(gx, 32, #[.int .i64 (ex : Int), .int .i64 (16 * (b0 : Int) + (b1 : Int) / 16), .bool B1, .bool B2, .int .i64 ((b1 : Int) % 4 * 65536 + 256 * (b2 : Int) + (b3 : Int)), .string (bo.extract 4 bo.size)]), (w.heap.size, 32, zc)] from ⟨HB4.be.trans (below_of_only hgr HB4.size (fun k hk => by injection hk with hk; omega)), fun x hx => by
    rcases List.mem_cons.1 hx with rfl | hx
    · exact hV
    · rcases List.mem_cons.1 hx with rfl | hx
      · exact Blk.grown (HB4.nth 1 rfl) hgr (by simp; omega)
      · cases hx⟩)
  clear hV hgr hsz HB4 hgb hp hσ hgx hgl HB1 d0 d1 d2 d3 d4 d5 d6 d7
  have d0 := Blk.cell (HV.out.nth 0 rfl) 0 (v := .int .i64 (ex : Int)) rfl
  have d1 := Blk.cell (HV.out.nth 0 rfl) 1 (v := .int .i64 (16 * (b0 : Int) + (b1 : Int) / 16)) rfl
  have d2 := Blk.cell (HV.out.nth 0 rfl) 2 (v := .bool B1) rfl
  have d3 := Blk.cell (HV.out.nth 0 rfl) 3 (v := .bool B2) rfl
  have d4 := Blk.cell (HV.out.nth 0 rfl) 4 (v := .int .i64 ((b1 : Int) % 4 * 65536 + 256 * (b2 : Int) + (b3 : Int))) rfl
  have d5 := Blk.cell (HV.out.nth 0 rfl) 5 (v := .string (bo.extract 4 bo.size)) rfl
  have k9 := kc V
  clear kc
  go_wp2_with fail
  (with_reducible refine (k9).mono ?_); rintro e1 W5 ⟨rfl, hb5⟩
  have HB5 := Lib.hid (HV.out.below hb5)
  have HBE := Lib.hid HB5.out.be
  clear k9 hb5 HV d0 d1 d2 d3 d4 d5
  by_cases hc : c = 0
  · subst hc
    have HE := Lib.hid (HP.out.trans (if_pos rfl))
    have d0 := Blk.cell (HB5.out.nth 0 rfl) 0 (v := .int .i64 (ex : Int)) rfl
    have d1 := Blk.cell (HB5.out.nth 0 rfl) 1 (v := .int .i64 (16 * (b0 : Int) + (b1 : Int) / 16)) rfl
    have d2 := Blk.cell (HB5.out.nth 0 rfl) 2 (v := .bool B1) rfl
    have d3 := Blk.cell (HB5.out.nth 0 rfl) 3 (v := .bool B2) rfl
    have d4 := Blk.cell (HB5.out.nth 0 rfl) 4 (v := .int .i64 ((b1 : Int) % 4 * 65536 + 256 * (b2 : Int) + (b3 : Int))) rfl
    have d5 := Blk.cell (HB5.out.nth 0 rfl) 5 (v := .string (bo.extract 4 bo.size)) rfl
    go_wp2_with (refine wpList_store_blk (g := w.heap.size) (T := 32) (cs' := #[.int .i64 (ex : Int), .int .i64 (16 * (b0 : Int) + (b1 : Int) / 16), .bool B1, .bool B2, .int .i64 ((b1 : Int) % 4 * 65536 + 256 * (b2 : Int) + (b3 : Int)), .string (bo.extract 4 bo.size)]) rfl 32 _ _ rfl rfl rfl (HB5.out.nth 1 rfl) (by kernel_rfl) (by kernel_rfl) (by kernel_rfl) (by kernel_rfl) ?_; intro W9 hW9 hg9 hz9)
    have hVE := HBE.out.trans (below_of_only hg9 HBE.out.size (fun k hk => by injection hk with hk; omega))
    exact bodyPost_ret (v := .tuple #[.agg #[.int .i64 (ex : Int), .int .i64 (16 * (b0 : Int) + (b1 : Int) / 16), .bool B1, .bool B2, .int .i64 ((b1 : Int) % 4 * 65536 + 256 * (b2 : Int) + (b3 : Int)), .string (bo.extract 4 bo.size)], .int .i64 0]) (by refine res_row (fn := Try.f19) (p := 2) (q := 3) rfl _ _ w.heap.size 32 _ (0, 0) _ ?_ hW9 Try.underlying32 rfl (by kernel_rfl); rfl) rfl ⟨by rw [HE.out, HC.out, HF.out], hVE⟩
  · have HE := Lib.hid (And.intro HC.out (HP.out.trans (if_neg hc)))
    have t9 : (c != 0) = true := by simpa using hc
    clear hc
    go_wp2_with (refine wpList_store_blk (g := w.heap.size) (T := 32) (cs' := zc) rfl 32 _ _ rfl rfl rfl (HB5.out.nth 1 rfl) (by kernel_rfl) (by kernel_rfl) (by kernel_rfl) (by kernel_rfl) ?_; intro W9 hW9 hg9 hz9)
    have hVE := HBE.out.trans (below_of_only hg9 HBE.out.size (fun k hk => by injection hk with hk; omega))
    exact bodyPost_ret (v := .tuple #[.agg zc, .int .i64 c]) (by refine res_row (fn := Try.f19) (p := 2) (q := 3) rfl _ _ w.heap.size 32 _ (0, 0) _ ?_ hW9 Try.underlying32 rfl (by kernel_rfl); rfl) rfl ⟨by first | (rw [HE.out.1, HE.out.2]; rfl), hVE⟩
theorem rmdec_any (t : ByteArray) (w : World) (hs : t.size ≤ 1099511627776) : Calls Try.prog 19 #[.string t] w fun e w' => e = .returned (.tuple #[.agg (mdP t).vals, .int .i64 (mdE t)]) ∧ Below w.heap.size w w' := by
  by_cases h : decE t = 0
  · by_cases h1 : (decS t).table = 62
    · by_cases h2 : frm (decS t)
      · by_cases h3 : (decS t).body.size < 4
        · exact rmd_short t w hs h h1 h2 h3
        · exact rmd_go t w hs h h1 h2 h3
      · exact rmd_form t w hs h h1 h2
    · exact rmd_kind t w hs h h1
  · exact rmd_bad t w hs h
end Go.Proofs.Ytfadhgbhdoddpaa.MpT
