/- burst: Times, Stamp; the document's Times. -/
import Derived.Test.YtofedloikbmidaaGreatDoorBuA
import Derived.Test.YtofedloikbmidaaGreatDoorPkF
import Derived.Test.YtofedloikbmidaaGreatDoorPkN
namespace Go.Proofs.YtofedloikbmidaaGreatDoor.BuB
open Go Go.RowKit Go.Proofs.YtofedloikbmidaaGreatDoor.Q Go.Proofs.YtofedloikbmidaaGreatDoor.Mem Go.Proofs.YtofedloikbmidaaGreatDoor.Rg Go.Proofs.YtofedloikbmidaaGreatDoor.Ap Go.Proofs.YtofedloikbmidaaGreatDoor.St Go.Proofs.YtofedloikbmidaaGreatDoor.Tab Go.Proofs.YtofedloikbmidaaGreatDoor.SeI Go.Proofs.YtofedloikbmidaaGreatDoor.TmA Go.Proofs.YtofedloikbmidaaGreatDoor.TmB Go.Proofs.YtofedloikbmidaaGreatDoor.BuA

noncomputable def tmE (t : ByteArray) : Int := if isM t then MpC.mdE t else if isF t then FcC.fdE t else 14
noncomputable def tmT (t : ByteArray) : Ti := if isM t then (MpC.mdP t).times else if isF t then (FcC.fdP t).times else zeroT
set_option maxRecDepth 100000
theorem gt_any (t : ByteArray) (w : World) (hs : t.size ≤ 1099511627776) : Calls Tryz.prog 197 #[.string t] w fun e w' => e = .returned (.tuple #[.agg (MpC.mdP t).times.vals, .int .i64 (MpC.mdE t)]) ∧ Below w.heap.size w w' := by
  have kd := fun V => MpC.mdec_any t V hs
  obtain ⟨c, hc⟩ : ∃ c, MpC.mdE t = c := ⟨_, rfl⟩
  obtain ⟨Q, hQ⟩ : ∃ Q, MpC.mdP t = Q := ⟨_, rfl⟩
  rw [hc, hQ] at kd ⊢
  clear hc hQ
  obtain ⟨ma, ⟨de, ta, fr, at_⟩, te⟩ := Q
  unfold MpA.Mp.vals at kd
  unfold Ti.vals
  dsimp only at kd ⊢
  have HB := Lib.hid (bk1 w 42 #[.int .i64 0, .bool false, .bool false, .int .i64 0])
  go_enter Tryz.func197, Tryz.ntmps197
  go_wp2_with fail
  (with_reducible refine (kd _).mono ?_); rintro e1 W1 ⟨rfl, hb1⟩
  have HB1 := Lib.hid ((HB.out.below hb1).new 250 #[.int .i64 ma, .int .i64 de, .bool ta, .bool fr, .int .i64 at_, .string te])
  have hgw := (HB.out.below hb1).lt 0 rfl
  clear kd hb1 HB
  have d0 := Blk.cell (HB1.out.nth 0 rfl) 0 (v := .int .i64 ma) rfl
  have d1 := Blk.cell (HB1.out.nth 0 rfl) 1 (v := .int .i64 de) rfl
  have d2 := Blk.cell (HB1.out.nth 0 rfl) 2 (v := .bool ta) rfl
  have d3 := Blk.cell (HB1.out.nth 0 rfl) 3 (v := .bool fr) rfl
  have d4 := Blk.cell (HB1.out.nth 0 rfl) 4 (v := .int .i64 at_) rfl
  have d5 := Blk.cell (HB1.out.nth 0 rfl) 5 (v := .string te) rfl
  go_wp2_with (refine wpList_store_blk (g := w.heap.size) (T := 42) (cs' := #[.int .i64 de, .bool ta, .bool fr, .int .i64 at_]) rfl 42 _ _ rfl rfl rfl (HB1.out.nth 1 rfl) (by kernel_rfl) (by kernel_rfl) (by kernel_rfl) (by kernel_rfl) ?_; intro W9 hW9 hg9 hz9)
  have hVE := HB1.out.be.trans (below_of_only hg9 HB1.out.be.size (fun k hk => by injection hk with hk; omega))
  exact bodyPost_ret (v := .tuple #[.agg #[.int .i64 de, .bool ta, .bool fr, .int .i64 at_], .int .i64 c]) (by refine res_row (fn := Tryz.f197) (p := 2) (q := 3) rfl _ _ w.heap.size 42 _ (0, 0) _ ?_ hW9 Tryz.underlying42 rfl (by kernel_rfl); rfl) rfl ⟨by rfl, hVE⟩
theorem ct_any (t : ByteArray) (w : World) (hT : Tab 3 w) (hs : t.size ≤ 1099511627776) : Calls Tryz.prog 201 #[.string t] w fun e w' => e = .returned (.tuple #[.agg (FcC.fdP t).times.vals, .int .i64 (FcC.fdE t)]) ∧ Below w.heap.size w w' := by
  have kd := FcC.fdec_any t (w.alloc (.cells #[.int .i64 0, .bool false, .bool false, .int .i64 0] 42)) (hT.be ((Below.refl _ _).alloc (Nat.le_refl _) _)) hs
  obtain ⟨c, hc⟩ : ∃ c, FcC.fdE t = c := ⟨_, rfl⟩
  obtain ⟨Q, hQ⟩ : ∃ Q, FcC.fdP t = Q := ⟨_, rfl⟩
  rw [hc, hQ] at kd ⊢
  clear hc hQ hT
  obtain ⟨pa, nu, la, ⟨de, ta, fr, at_⟩, te⟩ := Q
  unfold FcA.Fp.vals at kd
  unfold Ti.vals
  dsimp only at kd ⊢
  have HB := Lib.hid (bk1 w 42 #[.int .i64 0, .bool false, .bool false, .int .i64 0])
  go_enter Tryz.func201, Tryz.ntmps201
  go_wp2_with fail
  (with_reducible refine (kd).mono ?_); rintro e1 W1 ⟨rfl, hb1⟩
  have HB1 := Lib.hid ((HB.out.below hb1).new 254 #[.int .i64 pa, .int .i64 nu, .int .i64 la, .int .i64 de, .bool ta, .bool fr, .int .i64 at_, .string te])
  have hgw := (HB.out.below hb1).lt 0 rfl
  clear kd hb1 HB
  have d0 := Blk.cell (HB1.out.nth 0 rfl) 0 (v := .int .i64 pa) rfl
  have d1 := Blk.cell (HB1.out.nth 0 rfl) 1 (v := .int .i64 nu) rfl
  have d2 := Blk.cell (HB1.out.nth 0 rfl) 2 (v := .int .i64 la) rfl
  have d3 := Blk.cell (HB1.out.nth 0 rfl) 3 (v := .int .i64 de) rfl
  have d4 := Blk.cell (HB1.out.nth 0 rfl) 4 (v := .bool ta) rfl
  have d5 := Blk.cell (HB1.out.nth 0 rfl) 5 (v := .bool fr) rfl
  have d6 := Blk.cell (HB1.out.nth 0 rfl) 6 (v := .int .i64 at_) rfl
  have d7 := Blk.cell (HB1.out.nth 0 rfl) 7 (v := .string te) rfl
  go_wp2_with (refine wpList_store_blk (g := w.heap.size) (T := 42) (cs' := #[.int .i64 de, .bool ta, .bool fr, .int .i64 at_]) rfl 42 _ _ rfl rfl rfl (HB1.out.nth 1 rfl) (by kernel_rfl) (by kernel_rfl) (by kernel_rfl) (by kernel_rfl) ?_; intro W9 hW9 hg9 hz9)
  have hVE := HB1.out.be.trans (below_of_only hg9 HB1.out.be.size (fun k hk => by injection hk with hk; omega))
  exact bodyPost_ret (v := .tuple #[.agg #[.int .i64 de, .bool ta, .bool fr, .int .i64 at_], .int .i64 c]) (by refine res_row (fn := Tryz.f201) (p := 2) (q := 3) rfl _ _ w.heap.size 42 _ (0, 0) _ ?_ hW9 Tryz.underlying42 rfl (by kernel_rfl); rfl) rfl ⟨by rfl, hVE⟩
theorem times_any (t : ByteArray) (w : World) (hT : Tab 3 w) (hs : t.size ≤ 1099511627776) : Calls Tryz.prog 23 #[.string t] w fun e w' => e = .returned (.tuple #[.agg (tmT t).vals, .int .i64 (tmE t)]) ∧ Below w.heap.size w w' := by
  have HB := Lib.hid (bk1 w 42 #[.int .i64 0, .bool false, .bool false, .int .i64 0])
  have HT := Lib.hid hT
  clear hT
  cases hM : isM t with
  | true =>
    have kf := fun V => find_m t V hM
    have kg := fun V => gt_any t V hs
    have HE := Lib.hid (show tmT t = (MpC.mdP t).times ∧ tmE t = MpC.mdE t from ⟨by unfold tmT; rw [hM, if_pos rfl], by unfold tmE; rw [hM, if_pos rfl]⟩)
    rw [HE.out.1, HE.out.2]
    obtain ⟨c, hc⟩ : ∃ c, MpC.mdE t = c := ⟨_, rfl⟩
    obtain ⟨Q, hQ⟩ : ∃ Q, (MpC.mdP t).times = Q := ⟨_, rfl⟩
    rw [hc, hQ] at kg ⊢
    clear hc hQ HE hM
    obtain ⟨de, ta, fr, at_⟩ := Q
    unfold Ti.vals at kg ⊢
    unfold KM at kf
    dsimp only at kg ⊢
    go_enter Tryz.func23, Tryz.ntmps23
    go_wp2_with fail
    (with_reducible refine (kf _).mono ?_); rintro e1 W1 ⟨rfl, hb1⟩
    have HB1 := Lib.hid ((HB.out.below hb1).new 153 #[.func (.func 196) #[] #[], .func (.func 197) #[] #[], .func (.func 198) #[] #[], .func (.func 199) #[] #[]])
    clear kf hb1 HB
    have d0 := Blk.cell (HB1.out.nth 0 rfl) 0 (v := .func (.func 196) #[] #[]) rfl
    have d1 := Blk.cell (HB1.out.nth 0 rfl) 1 (v := .func (.func 197) #[] #[]) rfl
    have d2 := Blk.cell (HB1.out.nth 0 rfl) 2 (v := .func (.func 198) #[] #[]) rfl
    have d3 := Blk.cell (HB1.out.nth 0 rfl) 3 (v := .func (.func 199) #[] #[]) rfl
    go_wp2_with fail
    (with_reducible refine (kg _).mono ?_); rintro e1 W2 ⟨rfl, hb2⟩
    have HB2 := Lib.hid (HB1.out.below hb2)
    clear kg hb2 HB1 d0 d1 d2 d3
    go_wp2_with (refine wpList_store_blk (g := w.heap.size) (T := 42) (cs' := #[.int .i64 de, .bool ta, .bool fr, .int .i64 at_]) rfl 42 _ _ rfl rfl rfl (HB2.out.nth 1 rfl) (by kernel_rfl) (by kernel_rfl) (by kernel_rfl) (by kernel_rfl) ?_; intro W9 hW9 hg9 hz9)
    have hVE := HB2.out.be.trans (below_of_only hg9 HB2.out.be.size (fun k hk => by injection hk with hk; omega))
    exact bodyPost_ret (v := .tuple #[.agg #[.int .i64 de, .bool ta, .bool fr, .int .i64 at_], .int .i64 c]) (by refine res_row (fn := Tryz.f23) (p := 2) (q := 3) rfl _ _ w.heap.size 42 _ (0, 0) _ ?_ hW9 Tryz.underlying42 rfl (by kernel_rfl); rfl) rfl ⟨by rfl, hVE⟩
  | false =>
    cases hF : isF t with
    | true =>
      have kf := fun V => find_f t V hM hF
      have kg := fun V h => ct_any t V h hs
      have HE := Lib.hid (show tmT t = (FcC.fdP t).times ∧ tmE t = FcC.fdE t from ⟨by unfold tmT; rw [hM, hF, if_neg (by decide), if_pos rfl], by unfold tmE; rw [hM, hF, if_neg (by decide), if_pos rfl]⟩)
      rw [HE.out.1, HE.out.2]
      obtain ⟨c, hc⟩ : ∃ c, FcC.fdE t = c := ⟨_, rfl⟩
      obtain ⟨Q, hQ⟩ : ∃ Q, (FcC.fdP t).times = Q := ⟨_, rfl⟩
      rw [hc, hQ] at kg ⊢
      clear hc hQ HE hM hF
      obtain ⟨de, ta, fr, at_⟩ := Q
      unfold Ti.vals at kg ⊢
      unfold KF at kf
      dsimp only at kg ⊢
      go_enter Tryz.func23, Tryz.ntmps23
      go_wp2_with fail
      (with_reducible refine (kf _).mono ?_); rintro e1 W1 ⟨rfl, hb1⟩
      have HB1 := Lib.hid ((HB.out.below hb1).new 153 #[.func (.func 200) #[] #[], .func (.func 201) #[] #[], .func (.func 202) #[] #[], .func (.func 203) #[] #[]])
      have HTG := Lib.hid (kg _ (HT.out.be HB1.out.be))
      clear kf hb1 HB kg
      have d0 := Blk.cell (HB1.out.nth 0 rfl) 0 (v := .func (.func 200) #[] #[]) rfl
      have d1 := Blk.cell (HB1.out.nth 0 rfl) 1 (v := .func (.func 201) #[] #[]) rfl
      have d2 := Blk.cell (HB1.out.nth 0 rfl) 2 (v := .func (.func 202) #[] #[]) rfl
      have d3 := Blk.cell (HB1.out.nth 0 rfl) 3 (v := .func (.func 203) #[] #[]) rfl
      go_wp2_with fail
      (with_reducible refine (HTG.out).mono ?_); rintro e1 W2 ⟨rfl, hb2⟩
      have HB2 := Lib.hid (HB1.out.below hb2)
      clear HTG hb2 HB1 d0 d1 d2 d3
      go_wp2_with (refine wpList_store_blk (g := w.heap.size) (T := 42) (cs' := #[.int .i64 de, .bool ta, .bool fr, .int .i64 at_]) rfl 42 _ _ rfl rfl rfl (HB2.out.nth 1 rfl) (by kernel_rfl) (by kernel_rfl) (by kernel_rfl) (by kernel_rfl) ?_; intro W9 hW9 hg9 hz9)
      have hVE := HB2.out.be.trans (below_of_only hg9 HB2.out.be.size (fun k hk => by injection hk with hk; omega))
      exact bodyPost_ret (v := .tuple #[.agg #[.int .i64 de, .bool ta, .bool fr, .int .i64 at_], .int .i64 c]) (by refine res_row (fn := Tryz.f23) (p := 2) (q := 3) rfl _ _ w.heap.size 42 _ (0, 0) _ ?_ hW9 Tryz.underlying42 rfl (by kernel_rfl); rfl) rfl ⟨by rfl, hVE⟩
    | false =>
      have kf := fun V => find_z t V hM hF
      have HE := Lib.hid (show tmT t = zeroT ∧ tmE t = 14 from ⟨by unfold tmT; rw [hM, hF, if_neg (by decide), if_neg (by decide)], by unfold tmE; rw [hM, hF, if_neg (by decide), if_neg (by decide)]⟩)
      rw [HE.out.1, HE.out.2]
      clear HE hM hF
      unfold zeroT Ti.vals
      unfold KZ at kf
      dsimp only
      go_enter Tryz.func23, Tryz.ntmps23
      go_wp2_with fail
      (with_reducible refine (kf _).mono ?_); rintro e1 W1 ⟨rfl, hb1⟩
      have HB1 := Lib.hid ((HB.out.below hb1).new 153 #[.nilFunc, .nilFunc, .nilFunc, .nilFunc])
      clear kf hb1 HB
      go_wp2_with (refine wpList_store_blk (g := w.heap.size) (T := 42) (cs' := #[.int .i64 0, .bool false, .bool false, .int .i64 0]) rfl 42 _ _ rfl rfl rfl (HB1.out.nth 1 rfl) (by kernel_rfl) (by kernel_rfl) (by kernel_rfl) (by kernel_rfl) ?_; intro W9 hW9 hg9 hz9)
      have hVE := HB1.out.be.trans (below_of_only hg9 HB1.out.be.size (fun k hk => by injection hk with hk; omega))
      exact bodyPost_ret (v := .tuple #[.agg #[.int .i64 0, .bool false, .bool false, .int .i64 0], .int .i64 14]) (by refine res_row (fn := Tryz.f23) (p := 2) (q := 3) rfl _ _ w.heap.size 42 _ (0, 0) _ ?_ hW9 Tryz.underlying42 rfl (by kernel_rfl); rfl) rfl ⟨by rfl, hVE⟩
/-- times with another delta -/
noncomputable def tmX (t : ByteArray) (d : Int) : Ti := ⟨d, (tmT t).table, (tmT t).frame, (tmT t).at_⟩
noncomputable def stE (t : ByteArray) (d : Int) : Int := if tmE t ≠ 0 then tmE t else if isM t then MpD.mwE t (tmX t d) else FcD.fwE t (tmX t d)
noncomputable def stS (t : ByteArray) (d : Int) : ByteArray := if tmE t ≠ 0 then nob else if isM t then MpD.mwS t (tmX t d) else FcD.fwS t (tmX t d)
theorem stamp_any (t : ByteArray) (d : Int) (w : World) (hT : Tab 3 w) (hs : t.size ≤ 1099511627776) : Calls Tryz.prog 25 #[.string t, .int .i64 d] w fun e w' => e = .returned (.tuple #[.string (stS t d), .int .i64 (stE t d)]) ∧ Below w.heap.size w w' := by
  have kt := fun V h => times_any t V h hs
  have HT := Lib.hid hT
  clear hT
  by_cases hE : tmE t = 0
  · rw [hE] at kt
    cases hM : isM t with
    | true =>
      have kf := fun V => find_m t V hM
      have kw := fun V => MpD.mwith_any t (tmX t d) V hs
      have HX := Lib.hid (show stS t d = MpD.mwS t (tmX t d) ∧ stE t d = MpD.mwE t (tmX t d) from ⟨by unfold stS; rw [if_neg (by simpa using hE), hM, if_pos rfl], by unfold stE; rw [if_neg (by simpa using hE), hM, if_pos rfl]⟩)
      rw [HX.out.1, HX.out.2]
      have hx : tmX t d = ⟨d, (tmT t).table, (tmT t).frame, (tmT t).at_⟩ := rfl
      obtain ⟨S, hS⟩ : ∃ s, MpD.mwS t (tmX t d) = s := ⟨_, rfl⟩
      obtain ⟨E, hEe⟩ : ∃ s, MpD.mwE t (tmX t d) = s := ⟨_, rfl⟩
      rw [hS, hEe] at kw ⊢
      rw [hx] at kw
      obtain ⟨Q, hQ⟩ : ∃ Q, tmT t = Q := ⟨_, rfl⟩
      rw [hQ] at kt kw
      clear hx hS hEe hQ hM hE HX
      obtain ⟨de, ta, fr, at_⟩ := Q
      unfold Ti.vals at kt kw
      unfold KM at kf
      dsimp only at kt kw
      go_enter Tryz.func25, Tryz.ntmps25
      go_wp2_with fail
      (with_reducible refine (kt _ HT.out).mono ?_); rintro e1 W1 ⟨rfl, hb1⟩
      have HB1 := Lib.hid (((bk_nil w).below hb1).new 42 #[.int .i64 de, .bool ta, .bool fr, .int .i64 at_])
      go_wp2_with fail
      (with_reducible refine (kf _).mono ?_); rintro e1 W2 ⟨rfl, hb2⟩
      have hgw := hb1.size
      have hlt : W1.heap.size < W2.heap.size := by have := hb2.size; simp at this; omega
      have HB2 := Lib.hid ((HB1.out.below hb2).new 153 #[.func (.func 196) #[] #[], .func (.func 197) #[] #[], .func (.func 198) #[] #[], .func (.func 199) #[] #[]])
      have HS := Lib.hid (show Blk ((W2.alloc (.cells #[.func (.func 196) #[] #[], .func (.func 197) #[] #[], .func (.func 198) #[] #[], .func (.func 199) #[] #[]] 153)).setCell ⟨W1.heap.size, 0, none⟩ (.int .i64 d)) W1.heap.size 42 #[.int .i64 d, .bool ta, .bool fr, .int .i64 at_] ∧ Blk ((W2.alloc (.cells #[.func (.func 196) #[] #[], .func (.func 197) #[] #[], .func (.func 198) #[] #[], .func (.func 199) #[] #[]] 153)).setCell ⟨W1.heap.size, 0, none⟩ (.int .i64 d)) W2.heap.size 153 #[.func (.func 196) #[] #[], .func (.func 197) #[] #[], .func (.func 198) #[] #[], .func (.func 199) #[] #[]] ∧ Below w.heap.size w ((W2.alloc (.cells #[.func (.func 196) #[] #[], .func (.func 197) #[] #[], .func (.func 198) #[] #[], .func (.func 199) #[] #[]] 153)).setCell ⟨W1.heap.size, 0, none⟩ (.int .i64 d)) from
        ⟨Blk.set_ (HB2.out.nth 1 rfl) 0 _, Blk.far (HB2.out.nth 0 rfl) (by simp; omega) _, HB2.out.be.setCell (p := ⟨W1.heap.size, 0, none⟩) hgw _⟩)
      have d0 := Blk.cell (HB2.out.nth 1 rfl) 0 (v := .int .i64 de) rfl
      have f0 := Blk.frozen (HB2.out.nth 1 rfl) 0
      have x0 := Blk.cell (HS.out.1) 0 (v := .int .i64 d) rfl
      have x1 := Blk.cell (HS.out.1) 1 (v := .bool ta) rfl
      have x2 := Blk.cell (HS.out.1) 2 (v := .bool fr) rfl
      have x3 := Blk.cell (HS.out.1) 3 (v := .int .i64 at_) rfl
      have y0 := Blk.cell (HS.out.2.1) 0 (v := .func (.func 196) #[] #[]) rfl
      have y1 := Blk.cell (HS.out.2.1) 1 (v := .func (.func 197) #[] #[]) rfl
      have y2 := Blk.cell (HS.out.2.1) 2 (v := .func (.func 198) #[] #[]) rfl
      have y3 := Blk.cell (HS.out.2.1) 3 (v := .func (.func 199) #[] #[]) rfl
      have HBE := Lib.hid HS.out.2.2
      have HTW := Lib.hid (HT.out.be HS.out.2.2)
      clear kt kf hb1 hb2 HB1 HB2 HS hgw hlt
      go_wp2_with fail
      (with_reducible refine (kw _).mono ?_); rintro e1 W3 ⟨rfl, hb3⟩
      have hE2 := HBE.out.trans (hb3.mono HBE.out.size)
      go_wp2_with fail
      go_ret2
      exact ⟨rfl, hE2⟩
    | false =>
      have hF : isF t = true := by
        cases hF : isF t with
        | true => rfl
        | false => unfold tmE at hE; rw [hM, hF, if_neg (by decide), if_neg (by decide)] at hE; cases hE
      have kf := fun V => find_f t V hM hF
      have kw := fun V h => FcD.fwith_any t (tmX t d) V h hs
      have HX := Lib.hid (show stS t d = FcD.fwS t (tmX t d) ∧ stE t d = FcD.fwE t (tmX t d) from ⟨by unfold stS; rw [if_neg (by simpa using hE), hM, if_neg (by decide)], by unfold stE; rw [if_neg (by simpa using hE), hM, if_neg (by decide)]⟩)
      rw [HX.out.1, HX.out.2]
      have hx : tmX t d = ⟨d, (tmT t).table, (tmT t).frame, (tmT t).at_⟩ := rfl
      obtain ⟨S, hS⟩ : ∃ s, FcD.fwS t (tmX t d) = s := ⟨_, rfl⟩
      obtain ⟨E, hEe⟩ : ∃ s, FcD.fwE t (tmX t d) = s := ⟨_, rfl⟩
      rw [hS, hEe] at kw ⊢
      rw [hx] at kw
      obtain ⟨Q, hQ⟩ : ∃ Q, tmT t = Q := ⟨_, rfl⟩
      rw [hQ] at kt kw
      clear hx hS hEe hQ hM hE HX hF
      obtain ⟨de, ta, fr, at_⟩ := Q
      unfold Ti.vals at kt kw
      unfold KF at kf
      dsimp only at kt kw
      go_enter Tryz.func25, Tryz.ntmps25
      go_wp2_with fail
      (with_reducible refine (kt _ HT.out).mono ?_); rintro e1 W1 ⟨rfl, hb1⟩
      have HB1 := Lib.hid (((bk_nil w).below hb1).new 42 #[.int .i64 de, .bool ta, .bool fr, .int .i64 at_])
      go_wp2_with fail
      (with_reducible refine (kf _).mono ?_); rintro e1 W2 ⟨rfl, hb2⟩
      have hgw := hb1.size
      have hlt : W1.heap.size < W2.heap.size := by have := hb2.size; simp at this; omega
      have HB2 := Lib.hid ((HB1.out.below hb2).new 153 #[.func (.func 200) #[] #[], .func (.func 201) #[] #[], .func (.func 202) #[] #[], .func (.func 203) #[] #[]])
      have HS := Lib.hid (show Blk ((W2.alloc (.cells #[.func (.func 200) #[] #[], .func (.func 201) #[] #[], .func (.func 202) #[] #[], .func (.func 203) #[] #[]] 153)).setCell ⟨W1.heap.size, 0, none⟩ (.int .i64 d)) W1.heap.size 42 #[.int .i64 d, .bool ta, .bool fr, .int .i64 at_] ∧ Blk ((W2.alloc (.cells #[.func (.func 200) #[] #[], .func (.func 201) #[] #[], .func (.func 202) #[] #[], .func (.func 203) #[] #[]] 153)).setCell ⟨W1.heap.size, 0, none⟩ (.int .i64 d)) W2.heap.size 153 #[.func (.func 200) #[] #[], .func (.func 201) #[] #[], .func (.func 202) #[] #[], .func (.func 203) #[] #[]] ∧ Below w.heap.size w ((W2.alloc (.cells #[.func (.func 200) #[] #[], .func (.func 201) #[] #[], .func (.func 202) #[] #[], .func (.func 203) #[] #[]] 153)).setCell ⟨W1.heap.size, 0, none⟩ (.int .i64 d)) from
        ⟨Blk.set_ (HB2.out.nth 1 rfl) 0 _, Blk.far (HB2.out.nth 0 rfl) (by simp; omega) _, HB2.out.be.setCell (p := ⟨W1.heap.size, 0, none⟩) hgw _⟩)
      have d0 := Blk.cell (HB2.out.nth 1 rfl) 0 (v := .int .i64 de) rfl
      have f0 := Blk.frozen (HB2.out.nth 1 rfl) 0
      have x0 := Blk.cell (HS.out.1) 0 (v := .int .i64 d) rfl
      have x1 := Blk.cell (HS.out.1) 1 (v := .bool ta) rfl
      have x2 := Blk.cell (HS.out.1) 2 (v := .bool fr) rfl
      have x3 := Blk.cell (HS.out.1) 3 (v := .int .i64 at_) rfl
      have y0 := Blk.cell (HS.out.2.1) 0 (v := .func (.func 200) #[] #[]) rfl
      have y1 := Blk.cell (HS.out.2.1) 1 (v := .func (.func 201) #[] #[]) rfl
      have y2 := Blk.cell (HS.out.2.1) 2 (v := .func (.func 202) #[] #[]) rfl
      have y3 := Blk.cell (HS.out.2.1) 3 (v := .func (.func 203) #[] #[]) rfl
      have HBE := Lib.hid HS.out.2.2
      have HTW := Lib.hid (HT.out.be HS.out.2.2)
      clear kt kf hb1 hb2 HB1 HB2 HS hgw hlt
      go_wp2_with fail
      (with_reducible refine (kw _ HTW.out).mono ?_); rintro e1 W3 ⟨rfl, hb3⟩
      have hE2 := HBE.out.trans (hb3.mono HBE.out.size)
      go_wp2_with fail
      go_ret2
      exact ⟨rfl, hE2⟩
  · have HX := Lib.hid (show stS t d = nob ∧ stE t d = tmE t from ⟨if_pos hE, if_pos hE⟩)
    rw [HX.out.1, HX.out.2]
    have t1 : (tmE t != 0) = true := by simpa using hE
    obtain ⟨E, hEe⟩ : ∃ s, tmE t = s := ⟨_, rfl⟩
    rw [hEe] at kt t1 ⊢
    obtain ⟨Q, hQ⟩ : ∃ Q, tmT t = Q := ⟨_, rfl⟩
    rw [hQ] at kt
    clear hQ hEe hE HX
    obtain ⟨de, ta, fr, at_⟩ := Q
    unfold Ti.vals at kt
    dsimp only at kt
    go_enter Tryz.func25, Tryz.ntmps25
    go_wp2_with fail
    (with_reducible refine (kt _ HT.out).mono ?_); rintro e1 W1 ⟨rfl, hb1⟩
    have hbe := hb1.alloc hb1.size (.cells #[.int .i64 de, .bool ta, .bool fr, .int .i64 at_] 42)
    go_wp2_with fail
    go_ret2
    exact ⟨rfl, hbe⟩
theorem rtimes_any (t : ByteArray) (w : World) (hs : t.size ≤ 1099511627776) : Calls Tryz.prog 24 #[.string t] w fun e w' => e = .returned (.tuple #[.agg (tmT t).vals, .int .i64 (tmE t)]) ∧ Below w.heap.size w w' := by
  have HB := Lib.hid (bk1 w 42 #[.int .i64 0, .bool false, .bool false, .int .i64 0])
  by_cases h0 : t.size = 0
  · have HE := Lib.hid (show tmT t = zeroT ∧ tmE t = 14 from by
      have hM : isM t = false := decide_eq_false (fun h => by omega)
      have hF : isF t = false := decide_eq_false (fun h => by omega)
      exact ⟨by unfold tmT; rw [hM, hF, if_neg (by decide), if_neg (by decide)], by unfold tmE; rw [hM, hF, if_neg (by decide), if_neg (by decide)]⟩)
    have t1 : decide ((0 : Int) < (t.size : Int)) = false := decide_eq_false (by omega)
    have t1' : decide (0 < t.size) = false := decide_eq_false (by omega)
    rw [HE.out.1, HE.out.2]
    unfold zeroT Ti.vals
    dsimp only
    clear h0 HE
    go_enter Tryz.func24, Tryz.ntmps24
    go_wp2_with (refine wpList_store_blk (g := w.heap.size) (T := 42) (cs' := #[.int .i64 0, .bool false, .bool false, .int .i64 0]) rfl 42 _ _ rfl rfl rfl (HB.out.nth 0 rfl) (by kernel_rfl) (by kernel_rfl) (by kernel_rfl) (by kernel_rfl) ?_; intro W9 hW9 hg9 hz9)
    have hVE := HB.out.be.trans (below_of_only hg9 HB.out.be.size (fun k hk => by injection hk with hk; omega))
    exact bodyPost_ret (v := .tuple #[.agg #[.int .i64 0, .bool false, .bool false, .int .i64 0], .int .i64 14]) (by refine res_row (fn := Tryz.f24) (p := 2) (q := 3) rfl _ _ w.heap.size 42 _ (0, 0) _ ?_ hW9 Tryz.underlying42 rfl (by kernel_rfl); rfl) rfl ⟨by rfl, hVE⟩
  · have t1 : decide ((0 : Int) < (t.size : Int)) = true := decide_eq_true (by omega)
    have t1' : decide (0 < t.size) = true := decide_eq_true (by omega)
    have i0 : ∀ V : World, (Instr.index 9 (.string t) (.int .i64 0)).run Tryz.prog V = .ok (.int .u8 (at' t 0)) V := fun V => idx_at t 0 (by omega) V
    have hMe : isM t = decide (at' t 0 = 62) := by unfold isM; by_cases h : at' t 0 = 62 <;> simp [h] <;> omega
    have hFe : isF t = decide (at' t 0 = 120) := by unfold isF; by_cases h : at' t 0 = 120 <;> simp [h] <;> omega
    obtain ⟨b, hb⟩ : ∃ b, at' t 0 = b := ⟨_, rfl⟩
    rw [hb] at i0 hMe hFe
    clear hb
    by_cases hM : b = 62
    · have HE := Lib.hid (show tmT t = (MpC.mdP t).times ∧ tmE t = MpC.mdE t from by
        have h1 : isM t = true := by rw [hMe]; exact decide_eq_true hM
        exact ⟨by unfold tmT; rw [h1, if_pos rfl], by unfold tmE; rw [h1, if_pos rfl]⟩)
      have kd := fun V => MpT.rmdec_any t V hs
      rw [HE.out.1, HE.out.2]
      obtain ⟨c, hc⟩ : ∃ c, MpC.mdE t = c := ⟨_, rfl⟩
      obtain ⟨Q, hQ⟩ : ∃ Q, MpC.mdP t = Q := ⟨_, rfl⟩
      rw [hc, hQ] at kd ⊢
      have t2 : (b == 62) = true := by simpa using hM
      clear hc hQ HE hMe hFe hM
      obtain ⟨ma, ⟨de, ta, fr, at_⟩, te⟩ := Q
      unfold MpA.Mp.vals at kd
      unfold Ti.vals
      dsimp only at kd ⊢
      go_enter Tryz.func24, Tryz.ntmps24
      go_wp2_with fail
      (with_reducible refine (kd _).mono ?_); rintro e1 W1 ⟨rfl, hb1⟩
      have HB1 := Lib.hid ((HB.out.below hb1).new 142 #[.int .i64 ma, .int .i64 de, .bool ta, .bool fr, .int .i64 at_, .string te])
      have hgw := (HB.out.below hb1).lt 0 rfl
      clear kd hb1 HB
      have d0 := Blk.cell (HB1.out.nth 0 rfl) 0 (v := .int .i64 ma) rfl
      have d1 := Blk.cell (HB1.out.nth 0 rfl) 1 (v := .int .i64 de) rfl
      have d2 := Blk.cell (HB1.out.nth 0 rfl) 2 (v := .bool ta) rfl
      have d3 := Blk.cell (HB1.out.nth 0 rfl) 3 (v := .bool fr) rfl
      have d4 := Blk.cell (HB1.out.nth 0 rfl) 4 (v := .int .i64 at_) rfl
      have d5 := Blk.cell (HB1.out.nth 0 rfl) 5 (v := .string te) rfl
      go_wp2_with (refine wpList_store_blk (g := w.heap.size) (T := 42) (cs' := #[.int .i64 de, .bool ta, .bool fr, .int .i64 at_]) rfl 42 _ _ rfl rfl rfl (HB1.out.nth 1 rfl) (by kernel_rfl) (by kernel_rfl) (by kernel_rfl) (by kernel_rfl) ?_; intro W9 hW9 hg9 hz9)
      have hVE := HB1.out.be.trans (below_of_only hg9 HB1.out.be.size (fun k hk => by injection hk with hk; omega))
      exact bodyPost_ret (v := .tuple #[.agg #[.int .i64 de, .bool ta, .bool fr, .int .i64 at_], .int .i64 c]) (by refine res_row (fn := Tryz.f24) (p := 2) (q := 3) rfl _ _ w.heap.size 42 _ (0, 0) _ ?_ hW9 Tryz.underlying42 rfl (by kernel_rfl); rfl) rfl ⟨by rfl, hVE⟩
    · have t2 : (b == 62) = false := beq_eq_false_iff_ne.2 hM
      have h1 : isM t = false := by rw [hMe]; exact decide_eq_false hM
      by_cases hF : b = 120
      · have HE := Lib.hid (show tmT t = (FcC.fdP t).times ∧ tmE t = FcC.fdE t from by
          have h2 : isF t = true := by rw [hFe]; exact decide_eq_true hF
          exact ⟨by unfold tmT; rw [h1, h2, if_neg (by decide), if_pos rfl], by unfold tmE; rw [h1, h2, if_neg (by decide), if_pos rfl]⟩)
        have kd := fun V => FcT.rfdec_any t V hs
        rw [HE.out.1, HE.out.2]
        obtain ⟨c, hc⟩ : ∃ c, FcC.fdE t = c := ⟨_, rfl⟩
        obtain ⟨Q, hQ⟩ : ∃ Q, FcC.fdP t = Q := ⟨_, rfl⟩
        rw [hc, hQ] at kd ⊢
        have t3 : (b == 120) = true := by simpa using hF
        clear hc hQ HE hMe hFe hM hF h1
        obtain ⟨pa, nu, la, ⟨de, ta, fr, at_⟩, te⟩ := Q
        unfold FcA.Fp.vals at kd
        unfold Ti.vals
        dsimp only at kd ⊢
        go_enter Tryz.func24, Tryz.ntmps24
        go_wp2_with fail
        (with_reducible refine (kd _).mono ?_); rintro e1 W1 ⟨rfl, hb1⟩
        have HB1 := Lib.hid ((HB.out.below hb1).new 145 #[.int .i64 pa, .int .i64 nu, .int .i64 la, .int .i64 de, .bool ta, .bool fr, .int .i64 at_, .string te])
        have hgw := (HB.out.below hb1).lt 0 rfl
        clear kd hb1 HB
        have d0 := Blk.cell (HB1.out.nth 0 rfl) 0 (v := .int .i64 pa) rfl
        have d1 := Blk.cell (HB1.out.nth 0 rfl) 1 (v := .int .i64 nu) rfl
        have d2 := Blk.cell (HB1.out.nth 0 rfl) 2 (v := .int .i64 la) rfl
        have d3 := Blk.cell (HB1.out.nth 0 rfl) 3 (v := .int .i64 de) rfl
        have d4 := Blk.cell (HB1.out.nth 0 rfl) 4 (v := .bool ta) rfl
        have d5 := Blk.cell (HB1.out.nth 0 rfl) 5 (v := .bool fr) rfl
        have d6 := Blk.cell (HB1.out.nth 0 rfl) 6 (v := .int .i64 at_) rfl
        have d7 := Blk.cell (HB1.out.nth 0 rfl) 7 (v := .string te) rfl
        go_wp2_with (refine wpList_store_blk (g := w.heap.size) (T := 42) (cs' := #[.int .i64 de, .bool ta, .bool fr, .int .i64 at_]) rfl 42 _ _ rfl rfl rfl (HB1.out.nth 1 rfl) (by kernel_rfl) (by kernel_rfl) (by kernel_rfl) (by kernel_rfl) ?_; intro W9 hW9 hg9 hz9)
        have hVE := HB1.out.be.trans (below_of_only hg9 HB1.out.be.size (fun k hk => by injection hk with hk; omega))
        exact bodyPost_ret (v := .tuple #[.agg #[.int .i64 de, .bool ta, .bool fr, .int .i64 at_], .int .i64 c]) (by refine res_row (fn := Tryz.f24) (p := 2) (q := 3) rfl _ _ w.heap.size 42 _ (0, 0) _ ?_ hW9 Tryz.underlying42 rfl (by kernel_rfl); rfl) rfl ⟨by rfl, hVE⟩
      · have HE := Lib.hid (show tmT t = zeroT ∧ tmE t = 14 from by
          have h2 : isF t = false := by rw [hFe]; exact decide_eq_false hF
          exact ⟨by unfold tmT; rw [h1, h2, if_neg (by decide), if_neg (by decide)], by unfold tmE; rw [h1, h2, if_neg (by decide), if_neg (by decide)]⟩)
        have t3 : (b == 120) = false := beq_eq_false_iff_ne.2 hF
        rw [HE.out.1, HE.out.2]
        unfold zeroT Ti.vals
        dsimp only
        clear HE hMe hFe hM hF h1
        go_enter Tryz.func24, Tryz.ntmps24
        go_wp2_with (refine wpList_store_blk (g := w.heap.size) (T := 42) (cs' := #[.int .i64 0, .bool false, .bool false, .int .i64 0]) rfl 42 _ _ rfl rfl rfl (HB.out.nth 0 rfl) (by kernel_rfl) (by kernel_rfl) (by kernel_rfl) (by kernel_rfl) ?_; intro W9 hW9 hg9 hz9)
        have hVE := HB.out.be.trans (below_of_only hg9 HB.out.be.size (fun k hk => by injection hk with hk; omega))
        exact bodyPost_ret (v := .tuple #[.agg #[.int .i64 0, .bool false, .bool false, .int .i64 0], .int .i64 14]) (by refine res_row (fn := Tryz.f24) (p := 2) (q := 3) rfl _ _ w.heap.size 42 _ (0, 0) _ ?_ hW9 Tryz.underlying42 rfl (by kernel_rfl); rfl) rfl ⟨by rfl, hVE⟩
end Go.Proofs.YtofedloikbmidaaGreatDoor.BuB
