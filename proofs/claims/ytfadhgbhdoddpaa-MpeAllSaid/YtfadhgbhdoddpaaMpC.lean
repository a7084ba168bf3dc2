/- fec: Decode. -/
import Derived.Test.YtfadhgbhdoddpaaMpA
import Derived.Test.YtfadhgbhdoddpaaPkS
namespace Go.Proofs.Ytfadhgbhdoddpaa.MpC
open Go Go.RowKit Go.Proofs.Ytfadhgbhdoddpaa.Q Go.Proofs.Ytfadhgbhdoddpaa.Mem Go.Proofs.Ytfadhgbhdoddpaa.Rg Go.Proofs.Ytfadhgbhdoddpaa.Ap Go.Proofs.Ytfadhgbhdoddpaa.St Go.Proofs.Ytfadhgbhdoddpaa.BiP Go.Proofs.Ytfadhgbhdoddpaa.SeA Go.Proofs.Ytfadhgbhdoddpaa.SeC Go.Proofs.Ytfadhgbhdoddpaa.SeE Go.Proofs.Ytfadhgbhdoddpaa.SeEq Go.Proofs.Ytfadhgbhdoddpaa.SeI Go.Proofs.Ytfadhgbhdoddpaa.SeK Go.Proofs.Ytfadhgbhdoddpaa.SeP Go.Proofs.Ytfadhgbhdoddpaa.TmA Go.Proofs.Ytfadhgbhdoddpaa.TmB Go.Proofs.Ytfadhgbhdoddpaa.MpA

def zeroP : Mp := ⟨0, zeroT, nob⟩
/-- the part that a section is -/
def mpOf (s : Sc) : Mp := ⟨s.ext, tmD (s.body.extract 0 4), s.body.extract 4 s.body.size⟩
/-- is a section framed as a part's? -/
def frm (s : Sc) : Prop := s.priv = false ∧ s.version = 0 ∧ s.now = true ∧ s.number = 0 ∧ s.last = 0
instance (s : Sc) : Decidable (frm s) := by unfold frm; infer_instance
def secE (s : Sc) : Int := if s.table ≠ 62 then 14 else if ¬ frm s then 12 else if s.body.size < 4 then 10 else (mpOf s).chk
def mdE (t : ByteArray) : Int := if decE t ≠ 0 then decE t else secE (decS t)
def mdP (t : ByteArray) : Mp := if mdE t = 0 then mpOf (decS t) else zeroP
theorem md_zero {t : ByteArray} {c : Int} (h : mdE t = c) (hc : c ≠ 0) : mdE t = c ∧ mdP t = zeroP := ⟨h, by unfold mdP; rw [if_neg (by rw [h]; exact hc)]⟩
theorem frm_eq (s : Sc) (ht : s.table = 62) : decide (s = ⟨62, false, s.ext, 0, true, 0, 0, s.body⟩) = decide (frm s) := by
  rw [decide_eq_decide, sc_iff]
  unfold frm
  dsimp only
  constructor
  · rintro ⟨h1, h2, h3, h4, h5, h6, h7, h8⟩; exact ⟨h2, h4, h5, h6, h7⟩
  · rintro ⟨h1, h2, h3, h4, h5⟩; exact ⟨ht, h1, rfl, h2, h3, h4, h5, rfl⟩
set_option maxRecDepth 100000
/-- the zero part -/
abbrev zc : Array Value := #[.int .i64 0, .int .i64 0, .bool false, .bool false, .int .i64 0, .string nob]
theorem md_bad (t : ByteArray) (w : World) (hs : t.size ≤ 1099511627776) (h : decE t ≠ 0) : Calls Try.prog 17 #[.string t] w fun e w' => e = .returned (.tuple #[.agg (mdP t).vals, .int .i64 (mdE t)]) ∧ Below w.heap.size w w' := by
  have kd := fun V => decode_any t V hs
  have HB := Lib.hid (bk1 w 25 zc)
  have hE : mdE t = decE t := by unfold mdE; rw [if_pos h]
  obtain ⟨c, hc⟩ : ∃ c, decE t = c := ⟨_, rfl⟩
  rw [hc] at kd h hE
  have HE := Lib.hid (md_zero hE h)
  have t1 : (c != 0) = true := by simpa using h
  obtain ⟨s, hse⟩ : ∃ s, decS t = s := ⟨_, rfl⟩
  rw [hse] at kd
  unfold Sc.vals at kd
  clear hE hc hse h
  go_enter Try.func17, Try.ntmps17
  go_wp2_with fail
  (with_reducible refine (kd _).mono ?_); rintro e1 W1 ⟨rfl, hb1⟩
  have HB1 := Lib.hid ((HB.out.below hb1).new 57 s.vals)
  have HBE := Lib.hid HB1.out.be
  unfold Sc.vals at HB1 HBE
  clear kd HB hb1
  go_wp2_with (refine wpList_store_blk (g := w.heap.size) (T := 25) (cs' := zc) rfl 25 _ _ rfl rfl rfl (HB1.out.nth 1 rfl) (by kernel_rfl) (by kernel_rfl) (by kernel_rfl) (by kernel_rfl) ?_; intro W9 hW9 hg9 hz9)
  have hVE := HBE.out.trans (below_of_only hg9 HBE.out.size (fun k hk => by injection hk with hk; omega))
  exact bodyPost_ret (v := .tuple #[.agg zc, .int .i64 c]) (by refine res_row (fn := Try.f17) (p := 2) (q := 3) rfl _ _ w.heap.size 25 _ (0, 0) _ ?_ hW9 Try.underlying25 rfl (by kernel_rfl); rfl) rfl ⟨by first | (rw [HE.out.1, HE.out.2]; rfl), hVE⟩
theorem md_kind (t : ByteArray) (w : World) (hs : t.size ≤ 1099511627776) (h : decE t = 0) (h1 : (decS t).table ≠ 62) : Calls Try.prog 17 #[.string t] w fun e w' => e = .returned (.tuple #[.agg (mdP t).vals, .int .i64 (mdE t)]) ∧ Below w.heap.size w w' := by
  have kd := fun V => decode_any t V hs
  have HB := Lib.hid (bk1 w 25 zc)
  have HE := Lib.hid (md_zero (t := t) (c := 14) (by unfold mdE; rw [if_neg (by simpa using h)]; unfold secE; rw [if_pos h1]) (by decide))
  rw [h] at kd
  obtain ⟨s, hse⟩ : ∃ s, decS t = s := ⟨_, rfl⟩
  rw [hse] at kd h1
  have t1 : (s.table != 62) = true := by simpa using h1
  unfold Sc.vals at kd
  clear hse h h1
  go_enter Try.func17, Try.ntmps17
  go_wp2_with fail
  (with_reducible refine (kd _).mono ?_); rintro e1 W1 ⟨rfl, hb1⟩
  have HB1 := Lib.hid ((HB.out.below hb1).new 57 s.vals)
  have HBE := Lib.hid HB1.out.be
  unfold Sc.vals at HB1 HBE
  clear kd HB hb1
  go_wp2_with (refine wpList_store_blk (g := w.heap.size) (T := 25) (cs' := zc) rfl 25 _ _ rfl rfl rfl (HB1.out.nth 1 rfl) (by kernel_rfl) (by kernel_rfl) (by kernel_rfl) (by kernel_rfl) ?_; intro W9 hW9 hg9 hz9)
  have hVE := HBE.out.trans (below_of_only hg9 HBE.out.size (fun k hk => by injection hk with hk; omega))
  exact bodyPost_ret (v := .tuple #[.agg zc, .int .i64 14]) (by refine res_row (fn := Try.f17) (p := 2) (q := 3) rfl _ _ w.heap.size 25 _ (0, 0) _ ?_ hW9 Try.underlying25 rfl (by kernel_rfl); rfl) rfl ⟨by first | (rw [HE.out.1, HE.out.2]; rfl), hVE⟩
set_option maxHeartbeats 800000 in
theorem md_form (t : ByteArray) (w : World) (hs : t.size ≤ 1099511627776) (h : decE t = 0) (h1 : (decS t).table = 62) (h2 : ¬ frm (decS t)) : Calls Try.prog 17 #[.string t] w fun e w' => e = .returned (.tuple #[.agg (mdP t).vals, .int .i64 (mdE t)]) ∧ Below w.heap.size w w' := by
  have kd := fun V => decode_any t V hs
  have HB := Lib.hid (bk1 w 25 zc)
  have HE := Lib.hid (md_zero (t := t) (c := 12) (by unfold mdE; rw [if_neg (by simpa using h)]; unfold secE; rw [if_neg (by simpa using h1), if_pos h2]) (by decide))
  have hr := chk_zero (dec_enc h).1
  obtain ⟨⟨⟨ra1, ra2⟩, ⟨rb1, rb2⟩, ⟨rc1, rc2⟩, ⟨rd1, rd2⟩, re1, re2⟩, hbs⟩ := hr
  rw [h] at kd
  obtain ⟨s, hse⟩ : ∃ s, decS t = s := ⟨_, rfl⟩
  rw [hse] at kd h1 h2 ra1 ra2 rb1 rb2 rc1 rc2 rd1 rd2 re1 re2 hbs
  clear hse h
  obtain ⟨ta, pr, ex, ve, no, nu, la, bo⟩ := s
  unfold Sc.vals at *
  dsimp only at *
  obtain ⟨ex, rfl⟩ : ∃ n : Nat, ex = (n : Int) := ⟨ex.toNat, by omega⟩
  have kf := fun V => framed_any ex bo V
  unfold Sc.vals at kf
  dsimp only at kf
  have hx := fun V => eqTS ⟨62, pr, ex, ve, no, nu, la, bo⟩ ⟨62, false, (ex : Int), 0, true, 0, 0, bo⟩ V
  have hfe := frm_eq ⟨62, pr, ex, ve, no, nu, la, bo⟩ rfl
  dsimp only at hfe
  rw [hfe] at hx
  unfold Sc.vals at hx
  dsimp only at hx
  rw [h1] at *
  rw [decide_eq_false h2] at hx
  clear hfe ra1 ra2 rb1 rb2 rc1 rc2 rd1 rd2 re1 re2 hbs h1 h2
  go_enter Try.func17, Try.ntmps17
  go_wp2_with fail
  (with_reducible refine (kd _).mono ?_); rintro e1 W1 ⟨rfl, hb1⟩
  have HB1 := Lib.hid ((HB.out.below hb1).new 57 #[.int .i64 62, .bool pr, .int .i64 (ex : Int), .int .i64 ve, .bool no, .int .i64 nu, .int .i64 la, .string bo])
  clear kd HB hb1
  go_wp2_with fail
  have c0 := fun pX => Blk.cell (blk_ext (HB1.out.nth 0 rfl) pX) 0 (v := .int .i64 62) rfl
  have c1 := fun pX => Blk.cell (blk_ext (HB1.out.nth 0 rfl) pX) 1 (v := .bool pr) rfl
  have c2 := fun pX => Blk.cell (blk_ext (HB1.out.nth 0 rfl) pX) 2 (v := .int .i64 (ex : Int)) rfl
  have c3 := fun pX => Blk.cell (blk_ext (HB1.out.nth 0 rfl) pX) 3 (v := .int .i64 ve) rfl
  have c4 := fun pX => Blk.cell (blk_ext (HB1.out.nth 0 rfl) pX) 4 (v := .bool no) rfl
  have c5 := fun pX => Blk.cell (blk_ext (HB1.out.nth 0 rfl) pX) 5 (v := .int .i64 nu) rfl
  have c6 := fun pX => Blk.cell (blk_ext (HB1.out.nth 0 rfl) pX) 6 (v := .int .i64 la) rfl
  have c7 := fun pX => Blk.cell (blk_ext (HB1.out.nth 0 rfl) pX) 7 (v := .string bo) rfl
  refine Go.Proofs.Ytfadhgbhdoddpaa.Q.region_ext (by kernel_rfl) (by kernel_rfl) ?_
  repeat (go_big_quiet_step ((go_at_call 25; exact ext_call (kf _))))
  refine wpQuiet_nil ?_
  rintro w9 ⟨pq, rfl⟩
  have HB2 := Lib.hid (HB1.out.px pq)
  have HBE := Lib.hid HB2.out.be
  clear kf c0 c1 c2 c3 c4 c5 c6 c7
  go_wp2_with (refine wpList_store_blk (g := w.heap.size) (T := 25) (cs' := zc) rfl 25 _ _ rfl rfl rfl (HB2.out.nth 1 rfl) (by kernel_rfl) (by kernel_rfl) (by kernel_rfl) (by kernel_rfl) ?_; intro W9 hW9 hg9 hz9)
  have hVE := HBE.out.trans (below_of_only hg9 HBE.out.size (fun k hk => by injection hk with hk; omega))
  exact bodyPost_ret (v := .tuple #[.agg zc, .int .i64 12]) (by refine res_row (fn := Try.f17) (p := 2) (q := 3) rfl _ _ w.heap.size 25 _ (0, 0) _ ?_ hW9 Try.underlying25 rfl (by kernel_rfl); rfl) rfl ⟨by first | (rw [HE.out.1, HE.out.2]; rfl), hVE⟩
set_option maxHeartbeats 800000 in
theorem md_short (t : ByteArray) (w : World) (hs : t.size ≤ 1099511627776) (h : decE t = 0) (h1 : (decS t).table = 62) (h2 : frm (decS t)) (h3 : (decS t).body.size < 4) : Calls Try.prog 17 #[.string t] w fun e w' => e = .returned (.tuple #[.agg (mdP t).vals, .int .i64 (mdE t)]) ∧ Below w.heap.size w w' := by
  have kd := fun V => decode_any t V hs
  have HB := Lib.hid (bk1 w 25 zc)
  have HE := Lib.hid (md_zero (t := t) (c := 10) (by unfold mdE; rw [if_neg (by simpa using h)]; unfold secE; rw [if_neg (by simpa using h1), if_neg (by simpa using h2), if_pos h3]) (by decide))
  have hr := chk_zero (dec_enc h).1
  obtain ⟨⟨⟨ra1, ra2⟩, ⟨rb1, rb2⟩, ⟨rc1, rc2⟩, ⟨rd1, rd2⟩, re1, re2⟩, hbs⟩ := hr
  rw [h] at kd
  obtain ⟨s, hse⟩ : ∃ s, decS t = s := ⟨_, rfl⟩
  rw [hse] at kd h1 h2 h3 ra1 ra2 rb1 rb2 rc1 rc2 rd1 rd2 re1 re2 hbs
  clear hse h
  obtain ⟨ta, pr, ex, ve, no, nu, la, bo⟩ := s
  unfold Sc.vals at *
  dsimp only at *
  obtain ⟨ex, rfl⟩ : ∃ n : Nat, ex = (n : Int) := ⟨ex.toNat, by omega⟩
  have kf := fun V => framed_any ex bo V
  unfold Sc.vals at kf
  dsimp only at kf
  have hx := fun V => eqTS ⟨62, pr, ex, ve, no, nu, la, bo⟩ ⟨62, false, (ex : Int), 0, true, 0, 0, bo⟩ V
  have hfe := frm_eq ⟨62, pr, ex, ve, no, nu, la, bo⟩ rfl
  dsimp only at hfe
  rw [hfe] at hx
  unfold Sc.vals at hx
  dsimp only at hx
  rw [h1] at *
  rw [decide_eq_true h2] at hx
  clear hfe
  have t3 : decide ((bo.size : Int) < 4) = true := by simp; omega
  clear ra1 ra2 rb1 rb2 rc1 rc2 rd1 rd2 re1 re2 hbs h1 h2 h3
  go_enter Try.func17, Try.ntmps17
  go_wp2_with fail
  (with_reducible refine (kd _).mono ?_); rintro e1 W1 ⟨rfl, hb1⟩
  have HB1 := Lib.hid ((HB.out.below hb1).new 57 #[.int .i64 62, .bool pr, .int .i64 (ex : Int), .int .i64 ve, .bool no, .int .i64 nu, .int .i64 la, .string bo])
  have hgw : w.heap.size < W1.heap.size := (HB.out.below hb1).lt 0 rfl
  clear kd HB hb1
  go_wp2_with fail
  have c0 := fun pX => Blk.cell (blk_ext (HB1.out.nth 0 rfl) pX) 0 (v := .int .i64 62) rfl
  have c1 := fun pX => Blk.cell (blk_ext (HB1.out.nth 0 rfl) pX) 1 (v := .bool pr) rfl
  have c2 := fun pX => Blk.cell (blk_ext (HB1.out.nth 0 rfl) pX) 2 (v := .int .i64 (ex : Int)) rfl
  have c3 := fun pX => Blk.cell (blk_ext (HB1.out.nth 0 rfl) pX) 3 (v := .int .i64 ve) rfl
  have c4 := fun pX => Blk.cell (blk_ext (HB1.out.nth 0 rfl) pX) 4 (v := .bool no) rfl
  have c5 := fun pX => Blk.cell (blk_ext (HB1.out.nth 0 rfl) pX) 5 (v := .int .i64 nu) rfl
  have c6 := fun pX => Blk.cell (blk_ext (HB1.out.nth 0 rfl) pX) 6 (v := .int .i64 la) rfl
  have c7 := fun pX => Blk.cell (blk_ext (HB1.out.nth 0 rfl) pX) 7 (v := .string bo) rfl
  refine Go.Proofs.Ytfadhgbhdoddpaa.Q.region_ext (by kernel_rfl) (by kernel_rfl) ?_
  repeat (go_big_quiet_step ((go_at_call 25; exact ext_call (kf _))))
  refine wpQuiet_nil ?_
  rintro w9 ⟨pq, rfl⟩
  have HB2 := Lib.hid (HB1.out.px pq)
  have HBE := Lib.hid HB2.out.be
  clear kf c0 c1 c2 c3 c4 c5 c6 c7
  have d7 := Blk.cell (HB2.out.nth 0 rfl) 7 (v := .string bo) rfl
  go_wp2_with (refine wpList_store_blk (g := w.heap.size) (T := 25) (cs' := zc) rfl 25 _ _ rfl rfl rfl (HB2.out.nth 1 rfl) (by kernel_rfl) (by kernel_rfl) (by kernel_rfl) (by kernel_rfl) ?_; intro W9 hW9 hg9 hz9)
  have hVE := HBE.out.trans (below_of_only hg9 HBE.out.size (fun k hk => by injection hk with hk; omega))
  exact bodyPost_ret (v := .tuple #[.agg zc, .int .i64 10]) (by refine res_row (fn := Try.f17) (p := 2) (q := 3) rfl _ _ w.heap.size 25 _ (0, 0) _ ?_ hW9 Try.underlying25 rfl (by kernel_rfl); rfl) rfl ⟨by first | (rw [HE.out.1, HE.out.2]; rfl), hVE⟩
set_option maxHeartbeats 1600000 in
theorem md_go (t : ByteArray) (w : World) (hs : t.size ≤ 1099511627776) (h : decE t = 0) (h1 : (decS t).table = 62) (h2 : frm (decS t)) (h3 : ¬ (decS t).body.size < 4) : Calls Try.prog 17 #[.string t] w fun e w' => e = .returned (.tuple #[.agg (mdP t).vals, .int .i64 (mdE t)]) ∧ Below w.heap.size w w' := by
  have kd := fun V => decode_any t V hs
  have HB := Lib.hid (bk1 w 25 zc)
  have hE : mdE t = (mpOf (decS t)).chk := by unfold mdE; rw [if_neg (by simpa using h)]; unfold secE; rw [if_neg (by simpa using h1), if_neg (by simpa using h2), if_neg h3]
  have hP : mdP t = if mdE t = 0 then mpOf (decS t) else zeroP := rfl
  have hr := chk_zero (dec_enc h).1
  obtain ⟨⟨⟨ra1, ra2⟩, ⟨rb1, rb2⟩, ⟨rc1, rc2⟩, ⟨rd1, rd2⟩, re1, re2⟩, hbs⟩ := hr
  rw [h] at kd
  obtain ⟨s, hse⟩ : ∃ s, decS t = s := ⟨_, rfl⟩
  rw [hse] at kd h1 h2 h3 hE hP ra1 ra2 rb1 rb2 rc1 rc2 rd1 rd2 re1 re2 hbs
  clear hse h
  have kc := fun V => mcheck_any (mpOf s) V (by show (s.body.extract 4 s.body.size).size ≤ _; rw [ByteArray.size_extract]; omega)
  have kt := fun V => tdec_any (s.body.extract 0 4) V (by rw [ByteArray.size_extract]; omega)
  rw [← hE] at kc
  unfold Mp.vals mpOf at kc
  unfold mpOf at hP
  obtain ⟨c, hc⟩ : ∃ c, mdE t = c := ⟨_, rfl⟩
  rw [hc] at kc hP
  have HC := Lib.hid hc
  obtain ⟨ta, pr, ex, ve, no, nu, la, bo⟩ := s
  unfold Sc.vals at *
  dsimp only at *
  obtain ⟨ex, rfl⟩ : ∃ n : Nat, ex = (n : Int) := ⟨ex.toNat, by omega⟩
  have kf := fun V => framed_any ex bo V
  unfold Sc.vals at kf
  dsimp only at kf
  have hx := fun V => eqTS ⟨62, pr, ex, ve, no, nu, la, bo⟩ ⟨62, false, (ex : Int), 0, true, 0, 0, bo⟩ V
  have hfe := frm_eq ⟨62, pr, ex, ve, no, nu, la, bo⟩ rfl
  dsimp only at hfe
  rw [hfe] at hx
  unfold Sc.vals at hx
  dsimp only at hx
  rw [h1] at *
  rw [decide_eq_true h2] at hx
  clear hfe
  have t3 : decide ((bo.size : Int) < 4) = false := by simp; omega
  have t4 : (4 : Int) ≤ (bo.size : Int) := by omega
  obtain ⟨TI, hTI⟩ : ∃ TI, tmD (bo.extract 0 4) = TI := ⟨_, rfl⟩
  rw [hTI] at kt kc hP
  unfold Ti.vals at kt
  obtain ⟨de, tb, fr, at'⟩ := TI
  dsimp only at kt kc
  have HP := Lib.hid hP
  clear ra1 ra2 rb1 rb2 rc1 rc2 rd1 rd2 re1 re2 hbs h1 h2 h3 hE hTI hP hc
  go_enter Try.func17, Try.ntmps17
  go_wp2_with fail
  (with_reducible refine (kd _).mono ?_); rintro e1 W1 ⟨rfl, hb1⟩
  have HB1 := Lib.hid ((HB.out.below hb1).new 57 #[.int .i64 62, .bool pr, .int .i64 (ex : Int), .int .i64 ve, .bool no, .int .i64 nu, .int .i64 la, .string bo])
  have hgw : w.heap.size < W1.heap.size := (HB.out.below hb1).lt 0 rfl
  clear kd HB hb1
  go_wp2_with fail
  have c0 := fun pX => Blk.cell (blk_ext (HB1.out.nth 0 rfl) pX) 0 (v := .int .i64 62) rfl
  have c1 := fun pX => Blk.cell (blk_ext (HB1.out.nth 0 rfl) pX) 1 (v := .bool pr) rfl
  have c2 := fun pX => Blk.cell (blk_ext (HB1.out.nth 0 rfl) pX) 2 (v := .int .i64 (ex : Int)) rfl
  have c3 := fun pX => Blk.cell (blk_ext (HB1.out.nth 0 rfl) pX) 3 (v := .int .i64 ve) rfl
  have c4 := fun pX => Blk.cell (blk_ext (HB1.out.nth 0 rfl) pX) 4 (v := .bool no) rfl
  have c5 := fun pX => Blk.cell (blk_ext (HB1.out.nth 0 rfl) pX) 5 (v := .int .i64 nu) rfl
  have c6 := fun pX => Blk.cell (blk_ext (HB1.out.nth 0 rfl) pX) 6 (v := .int .i64 la) rfl
  have c7 := fun pX => Blk.cell (blk_ext (HB1.out.nth 0 rfl) pX) 7 (v := .string bo) rfl
  refine Go.Proofs.Ytfadhgbhdoddpaa.Q.region_ext (by kernel_rfl) (by kernel_rfl) ?_
  repeat (go_big_quiet_step ((go_at_call 25; exact ext_call (kf _))))
  refine wpQuiet_nil ?_
  rintro w9 ⟨pq, rfl⟩
  have HB2 := Lib.hid (HB1.out.px pq)
  have HBE := Lib.hid HB2.out.be
  clear kf c0 c1 c2 c3 c4 c5 c6 c7
  have d0 := Blk.cell (HB2.out.nth 0 rfl) 0 (v := .int .i64 62) rfl
  have d1 := Blk.cell (HB2.out.nth 0 rfl) 1 (v := .bool pr) rfl
  have d2 := Blk.cell (HB2.out.nth 0 rfl) 2 (v := .int .i64 (ex : Int)) rfl
  have d3 := Blk.cell (HB2.out.nth 0 rfl) 3 (v := .int .i64 ve) rfl
  have d4 := Blk.cell (HB2.out.nth 0 rfl) 4 (v := .bool no) rfl
  have d5 := Blk.cell (HB2.out.nth 0 rfl) 5 (v := .int .i64 nu) rfl
  have d6 := Blk.cell (HB2.out.nth 0 rfl) 6 (v := .int .i64 la) rfl
  have d7 := Blk.cell (HB2.out.nth 0 rfl) 7 (v := .string bo) rfl
  go_wp2_with fail
  (with_reducible refine (kt _).mono ?_); rintro e1 W3 ⟨rfl, hb3⟩
  have HB3 := Lib.hid ((HB2.out.below hb3).new 23 #[.int .i64 de, .bool tb, .bool fr, .int .i64 at'])
  clear kt HB2 hb3 HBE d0 d1 d2 d3 d4 d5 d6 d7
  go_wp2_with fail
  have hgt : W3.heap.size < (W3.alloc (.cells #[.int .i64 de, .bool tb, .bool fr, .int .i64 at'] 23)).heap.size := HB3.out.lt 0 rfl
  obtain ⟨g3, hg3⟩ : ∃ g3, W3.heap.size = g3 := ⟨_, rfl⟩
  obtain ⟨V3, hV3⟩ : ∃ V3, W3.alloc (.cells #[.int .i64 de, .bool tb, .bool fr, .int .i64 at'] 23) = V3 := ⟨_, rfl⟩
  rw [hV3] at HB3 hgt ⊢
  rw [hg3] at HB3 hgt ⊢
  clear hg3 hV3
  have y0 := fun pX => Blk.cell (blk_ext (HB3.out.nth 0 rfl) pX) 0 (v := .int .i64 de) rfl
  have y1 := fun pX => Blk.cell (blk_ext (HB3.out.nth 0 rfl) pX) 1 (v := .bool tb) rfl
  have y2 := fun pX => Blk.cell (blk_ext (HB3.out.nth 0 rfl) pX) 2 (v := .bool fr) rfl
  have y3 := fun pX => Blk.cell (blk_ext (HB3.out.nth 0 rfl) pX) 3 (v := .int .i64 at') rfl
  have d0 := fun pX => Blk.cell (blk_ext (HB3.out.nth 1 rfl) pX) 0 (v := .int .i64 62) rfl
  have d1 := fun pX => Blk.cell (blk_ext (HB3.out.nth 1 rfl) pX) 1 (v := .bool pr) rfl
  have d2 := fun pX => Blk.cell (blk_ext (HB3.out.nth 1 rfl) pX) 2 (v := .int .i64 (ex : Int)) rfl
  have d3 := fun pX => Blk.cell (blk_ext (HB3.out.nth 1 rfl) pX) 3 (v := .int .i64 ve) rfl
  have d4 := fun pX => Blk.cell (blk_ext (HB3.out.nth 1 rfl) pX) 4 (v := .bool no) rfl
  have d5 := fun pX => Blk.cell (blk_ext (HB3.out.nth 1 rfl) pX) 5 (v := .int .i64 nu) rfl
  have d6 := fun pX => Blk.cell (blk_ext (HB3.out.nth 1 rfl) pX) 6 (v := .int .i64 la) rfl
  have d7 := fun pX => Blk.cell (blk_ext (HB3.out.nth 1 rfl) pX) 7 (v := .string bo) rfl
  refine Go.Proofs.Ytfadhgbhdoddpaa.Rg.region_new [(7, newB 25 zc V3.heap.size)] 8 (by kernel_rfl) (by kernel_rfl) (by kernel_rfl) (lk_cons newB_inh lk_nil) (lk_cons newB_mono lk_nil) ?_
  intro σ hσ
  simp only [List.take_succ_cons, List.take_zero, List.drop_succ_cons, List.drop_zero]
  refine Go.Proofs.Ytfadhgbhdoddpaa.Rg.wpN_take 7 (by kernel_rfl) (by kernel_rfl) (by kernel_rfl) ?_
  simp only [List.take_succ_cons, List.take_zero, List.drop_succ_cons, List.drop_zero]
  repeat (go_big_quiet_step (fail))
  refine wpQuiet_nil ?_
  refine wpN_sp _ rfl (by kernel_rfl) (spAt_newB 25 zc (Nat.le_refl _) (fun _ => rfl)) ?_
  simp only [Act.put, List.setIfInBounds_toArray, List.set_cons_zero, List.set_cons_succ]
  refine wpN_nil ?_
  rintro w9 ⟨pq, rfl⟩ hp
  obtain ⟨gx, hgx, hgl, hgb⟩ := hp 7 _ rfl
  rw [hgx]
  refine wpList_store_blk (cs' := #[.int .i64 (ex : Int), .int .i64 de, .bool tb, .bool fr, .int .i64 at', .string (bo.extract 4 bo.size)]) rfl 25 _ _ rfl rfl rfl hgb (by kernel_rfl) (by kernel_rfl) (by kernel_rfl) (by kernel_rfl) ?_
  intro V hV hgr hsz
  have HB4 := HB3.out.px pq
  have hgl' : V3.heap.size ≤ gx := hgl
  have HV := Lib.hid (show Bk w V [(gx, 25, #[.int .i64 (ex : Int), .int .i64 de, .bool tb, .bool fr, .int .i64 at', .string (bo.extract 4 bo.size)]), (w.heap.size, 25, zc)] from ⟨HB4.be.trans (below_of_only hgr HB4.size (fun k hk => by injection hk with hk; have := HB3.out.size; omega)), fun x hx => by
    rcases List.mem_cons.1 hx with rfl | hx
    · exact hV
    · rcases List.mem_cons.1 hx with rfl | hx
      · exact Blk.grown (HB4.nth 2 rfl) hgr (by have := HB3.out.lt 2 rfl; simp at this ⊢; omega)
      · cases hx⟩)
  clear hV hgr hsz HB4 hgb hp hσ hgx hgl hgl' HB3 y0 y1 y2 y3 d0 d1 d2 d3 d4 d5 d6 d7
  have d0 := Blk.cell (HV.out.nth 0 rfl) 0 (v := .int .i64 (ex : Int)) rfl
  have d1 := Blk.cell (HV.out.nth 0 rfl) 1 (v := .int .i64 de) rfl
  have d2 := Blk.cell (HV.out.nth 0 rfl) 2 (v := .bool tb) rfl
  have d3 := Blk.cell (HV.out.nth 0 rfl) 3 (v := .bool fr) rfl
  have d4 := Blk.cell (HV.out.nth 0 rfl) 4 (v := .int .i64 at') rfl
  have d5 := Blk.cell (HV.out.nth 0 rfl) 5 (v := .string (bo.extract 4 bo.size)) rfl
  have k9 := kc V
  clear kc
  go_wp2_with fail
  (with_reducible refine (k9).mono ?_); rintro e1 W5 ⟨rfl, hb5⟩
  have HB5 := Lib.hid (HV.out.below hb5)
  have HBE := Lib.hid HB5.out.be
  clear k9 hb5 HV d0 d1 d2 d3 d4 d5
  by_cases hc : c = 0
  · subst hc
    have HE := Lib.hid (HP.out.trans (if_pos rfl))
    have d0 := Blk.cell (HB5.out.nth 0 rfl) 0 (v := .int .i64 (ex : Int)) rfl
    have d1 := Blk.cell (HB5.out.nth 0 rfl) 1 (v := .int .i64 de) rfl
    have d2 := Blk.cell (HB5.out.nth 0 rfl) 2 (v := .bool tb) rfl
    have d3 := Blk.cell (HB5.out.nth 0 rfl) 3 (v := .bool fr) rfl
    have d4 := Blk.cell (HB5.out.nth 0 rfl) 4 (v := .int .i64 at') rfl
    have d5 := Blk.cell (HB5.out.nth 0 rfl) 5 (v := .string (bo.extract 4 bo.size)) rfl
    go_wp2_with (refine wpList_store_blk (g := w.heap.size) (T := 25) (cs' := #[.int .i64 (ex : Int), .int .i64 de, .bool tb, .bool fr, .int .i64 at', .string (bo.extract 4 bo.size)]) rfl 25 _ _ rfl rfl rfl (HB5.out.nth 1 rfl) (by kernel_rfl) (by kernel_rfl) (by kernel_rfl) (by kernel_rfl) ?_; intro W9 hW9 hg9 hz9)
    have hVE := HBE.out.trans (below_of_only hg9 HBE.out.size (fun k hk => by injection hk with hk; omega))
    exact bodyPost_ret (v := .tuple #[.agg #[.int .i64 (ex : Int), .int .i64 de, .bool tb, .bool fr, .int .i64 at', .string (bo.extract 4 bo.size)], .int .i64 0]) (by refine res_row (fn := Try.f17) (p := 2) (q := 3) rfl _ _ w.heap.size 25 _ (0, 0) _ ?_ hW9 Try.underlying25 rfl (by kernel_rfl); rfl) rfl ⟨by rw [HE.out, HC.out]; rfl, hVE⟩
  · have HE := Lib.hid (And.intro HC.out (HP.out.trans (if_neg hc)))
    have t9 : (c != 0) = true := by simpa using hc
    clear hc
    go_wp2_with (refine wpList_store_blk (g := w.heap.size) (T := 25) (cs' := zc) rfl 25 _ _ rfl rfl rfl (HB5.out.nth 1 rfl) (by kernel_rfl) (by kernel_rfl) (by kernel_rfl) (by kernel_rfl) ?_; intro W9 hW9 hg9 hz9)
    have hVE := HBE.out.trans (below_of_only hg9 HBE.out.size (fun k hk => by injection hk with hk; omega))
    exact bodyPost_ret (v := .tuple #[.agg zc, .int .i64 c]) (by refine res_row (fn := Try.f17) (p := 2) (q := 3) rfl _ _ w.heap.size 25 _ (0, 0) _ ?_ hW9 Try.underlying25 rfl (by kernel_rfl); rfl) rfl ⟨by first | (rw [HE.out.1, HE.out.2]; rfl), hVE⟩
theorem mdec_any (t : ByteArray) (w : World) (hs : t.size ≤ 1099511627776) : Calls Try.prog 17 #[.string t] w fun e w' => e = .returned (.tuple #[.agg (mdP t).vals, .int .i64 (mdE t)]) ∧ Below w.heap.size w w' := by
  by_cases h : decE t = 0
  · by_cases h1 : (decS t).table = 62
    · by_cases h2 : frm (decS t)
      · by_cases h3 : (decS t).body.size < 4
        · exact md_short t w hs h h1 h2 h3
        · exact md_go t w hs h h1 h2 h3
      · exact md_form t w hs h h1 h2
    · exact md_kind t w hs h h1
  · exact md_bad t w hs h
end Go.Proofs.Ytfadhgbhdoddpaa.MpC
