/- burst: Times, Stamp; the document's Times. -/
import Derived.Test.YthgcmlhmhojjhaaGreatDoorBuA
import Derived.Test.YthgcmlhmhojjhaaGreatDoorPkF
import Derived.Test.YthgcmlhmhojjhaaGreatDoorPkN
namespace Go.Proofs.YthgcmlhmhojjhaaGreatDoor.BuB
open Go Go.RowKit Go.Proofs.YthgcmlhmhojjhaaGreatDoor.Q Go.Proofs.YthgcmlhmhojjhaaGreatDoor.Mem Go.Proofs.YthgcmlhmhojjhaaGreatDoor.Rg Go.Proofs.YthgcmlhmhojjhaaGreatDoor.Ap Go.Proofs.YthgcmlhmhojjhaaGreatDoor.St Go.Proofs.YthgcmlhmhojjhaaGreatDoor.Tab Go.Proofs.YthgcmlhmhojjhaaGreatDoor.SeI Go.Proofs.YthgcmlhmhojjhaaGreatDoor.TmA Go.Proofs.YthgcmlhmhojjhaaGreatDoor.TmB Go.Proofs.YthgcmlhmhojjhaaGreatDoor.BuA

noncomputable def tmE (t : ByteArray) : Int := if isM t then MpC.mdE t else if isF t then FcC.fdE t else 14
noncomputable def tmT (t : ByteArray) : Ti := if isM t then (MpC.mdP t).times else if isF t then (FcC.fdP t).times else zeroT
set_option maxRecDepth 100000
theorem gt_any (t : ByteArray) (w : World) (hs : t.size ≤ 1099511627776) : Calls Tryz.prog 70 #[.string t] w fun e w' => e = .returned (.tuple #[.agg (MpC.mdP t).times.vals, .int .i64 (MpC.mdE t)]) ∧ Below w.heap.size w w' := by
  have kd := fun V => MpC.mdec_any t V hs
  obtain ⟨c, hc⟩ : ∃ c, MpC.mdE t = c := ⟨_, rfl⟩
  obtain ⟨Q, hQ⟩ : ∃ Q, MpC.mdP t = Q := ⟨_, rfl⟩
  rw [hc, hQ] at kd ⊢
  clear hc hQ
  obtain ⟨ma, ⟨de, ta, fr, at_⟩, te⟩ := Q
  unfold MpA.Mp.vals at kd
  unfold Ti.vals
  dsimp only at kd ⊢
  have HB := Lib.hid (bk1 w 39 #[.int .i64 0, .bool false, .bool false, .int .i64 0])
  go_enter Tryz.func70, Tryz.ntmps70
  go_wp2_with fail
  (with_reducible refine (kd _).mono ?_); rintro e1 W1 ⟨rfl, hb1⟩
  have HB1 := Lib.hid ((HB.out.below hb1).new 119 #[.int .i64 ma, .int .i64 de, .bool ta, .bool fr, .int .i64 at_, .string te])
  have hgw := (HB.out.below hb1).lt 0 rfl
  clear kd hb1 HB
  have d0 := Blk.cell (HB1.out.nth 0 rfl) 0 (v := .int .i64 ma) rfl
  have d1 := Blk.cell (HB1.out.nth 0 rfl) 1 (v := .int .i64 de) rfl
  have d2 := Blk.cell (HB1.out.nth 0 rfl) 2 (v := .bool ta) rfl
  have d3 := Blk.cell (HB1.out.nth 0 rfl) 3 (v := .bool fr) rfl
  have d4 := Blk.cell (HB1.out.nth 0 rfl) 4 (v := .int .i64 at_) rfl
  have d5 := Blk.cell (HB1.out.nth 0 rfl) 5 (v := .string te) rfl
  go_wp2_with (refine wpList_store_blk (g := w.heap.size) (T := 39) (cs' := #[.int .i64 de, .bool ta, .bool fr, .int .i64 at_]) rfl 39 _ _ rfl rfl rfl (HB1.out.nth 1 rfl) (by kernel_rfl) (by kernel_rfl) (by kernel_rfl) (by kernel_rfl) ?_; intro W9 hW9 hg9 hz9)
  have hVE := HB1.out.be.trans (below_of_only hg9 HB1.out.be.size (fun k hk => by injection hk with hk; omega))
  exact bodyPost_ret (v := .tuple #[.agg #[.int .i64 de, .bool ta, .bool fr, .int .i64 at_], .int .i64 c]) (by refine res_row (fn := Tryz.f70) (p := 2) (q := 3) rfl _ _ w.heap.size 39 _ (0, 0) _ ?_ hW9 Tryz.underlying39 rfl (by kernel_rfl); rfl) rfl ⟨by rfl, hVE⟩
theorem ct_any (t : ByteArray) (w : World) (hT : Tab 2 w) (hs : t.size ≤ 1099511627776) : Calls Tryz.prog 74 #[.string t] w fun e w' => e = .returned (.tuple #[.agg (FcC.fdP t).times.vals, .int .i64 (FcC.fdE t)]) ∧ Below w.heap.size w w' := by
  have kd := FcC.fdec_any t (w.alloc (.cells #[.int .i64 0, .bool false, .bool false, .int .i64 0] 39)) (hT.be ((Below.refl _ _).alloc (Nat.le_refl _) _)) hs
  obtain ⟨c, hc⟩ : ∃ c, FcC.fdE t = c := ⟨_, rfl⟩
  obtain ⟨Q, hQ⟩ : ∃ Q, FcC.fdP t = Q := ⟨_, rfl⟩
  rw [hc, hQ] at kd ⊢
  clear hc hQ hT
  obtain ⟨pa, nu, la, ⟨de, ta, fr, at_⟩, te⟩ := Q
  unfold FcA.Fp.vals at kd
  unfold Ti.vals
  dsimp only at kd ⊢
  have HB := Lib.hid (bk1 w 39 #[.int .i64 0, .bool false, .bool false, .int .i64 0])
  go_enter Tryz.func74, Tryz.ntmps74
  go_wp2_with fail
  (with_reducible refine (kd).mono ?_); rintro e1 W1 ⟨rfl, hb1⟩
  have HB1 := Lib.hid ((HB.out.below hb1).new 123 #[.int .i64 pa, .int .i64 nu, .int .i64 la, .int .i64 de, .bool ta, .bool fr, .int .i64 at_, .string te])
  have hgw := (HB.out.below hb1).lt 0 rfl
  clear kd hb1 HB
  have d0 := Blk.cell (HB1.out.nth 0 rfl) 0 (v := .int .i64 pa) rfl
  have d1 := Blk.cell (HB1.out.nth 0 rfl) 1 (v := .int .i64 nu) rfl
  have d2 := Blk.cell (HB1.out.nth 0 rfl) 2 (v := .int .i64 la) rfl
  have d3 := Blk.cell (HB1.out.nth 0 rfl) 3 (v := .int .i64 de) rfl
  have d4 := Blk.cell (HB1.out.nth 0 rfl) 4 (v := .bool ta) rfl
  have d5 := Blk.cell (HB1.out.nth 0 rfl) 5 (v := .bool fr) rfl
  have d6 := Blk.cell (HB1.out.nth 0 rfl) 6 (v := .int .i64 at_) rfl
  have d7 := Blk.cell (HB1.out.nth 0 rfl) 7 (v := .string te) rfl
  go_wp2_with (refine wpList_store_blk (g := w.heap.size) (T := 39) (cs' := #[.int .i64 de, .bool ta, .bool fr, .int .i64 at_]) rfl 39 _ _ rfl rfl rfl (HB1.out.nth 1 rfl) (by kernel_rfl) (by kernel_rfl) (by kernel_rfl) (by kernel_rfl) ?_; intro W9 hW9 hg9 hz9)
  have hVE := HB1.out.be.trans (below_of_only hg9 HB1.out.be.size (fun k hk => by injection hk with hk; omega))
  exact bodyPost_ret (v := .tuple #[.agg #[.int .i64 de, .bool ta, .bool fr, .int .i64 at_], .int .i64 c]) (by refine res_row (fn := Tryz.f74) (p := 2) (q := 3) rfl _ _ w.heap.size 39 _ (0, 0) _ ?_ hW9 Tryz.underlying39 rfl (by kernel_rfl); rfl) rfl ⟨by rfl, hVE⟩
theorem times_any (t : ByteArray) (w : World) (hT : Tab 2 w) (hs : t.size ≤ 1099511627776) : Calls Tryz.prog 24 #[.string t] w fun e w' => e = .returned (.tuple #[.agg (tmT t).vals, .int .i64 (tmE t)]) ∧ Below w.heap.size w w' := by
  have HB := Lib.hid (bk1 w 39 #[.int .i64 0, .bool false, .bool false, .int .i64 0])
  have HT := Lib.hid hT
  clear hT
  cases hM : isM t with
  | true =>
    have kf := fun V => find_m t V hM
    have kg := fun V => gt_any t V hs
    have HE := Lib.hid (show tmT t = (MpC.mdP t).times ∧ tmE t = MpC.mdE t from ⟨by unfold tmT; rw [hM, if_pos rfl], by unfold tmE; rw [hM, if_pos rfl]⟩)
    rw [HE.out.1, HE.out.2]
    obtain ⟨c, hc⟩ : ∃ c, MpC.mdE t = c := ⟨_, rfl⟩
    obtain ⟨Q, hQ⟩ : ∃ Q, (MpC.mdP t).times = Q := ⟨_, rfl⟩
    rw [hc, hQ] at kg ⊢
    clear hc hQ HE hM
    obtain ⟨de, ta, fr, at_⟩ := Q
    unfold Ti.vals at kg ⊢
    unfold KM at kf
    dsimp only at kg ⊢
    go_enter Tryz.func24, Tryz.ntmps24
    go_wp2_with fail
    (with_reducible refine (kf _).mono ?_); rintro e1 W1 ⟨rfl, hb1⟩
    have HB1 := Lib.hid ((HB.out.below hb1).new 83 #[.func (.func 69) #[] #[], .func (.func 70) #[] #[], .func (.func 71) #[] #[], .func (.func 72) #[] #[]])
    clear kf hb1 HB
    have d0 := Blk.cell (HB1.out.nth 0 rfl) 0 (v := .func (.func 69) #[] #[]) rfl
    have d1 := Blk.cell (HB1.out.nth 0 rfl) 1 (v := .func (.func 70) #[] #[]) rfl
    have d2 := Blk.cell (HB1.out.nth 0 rfl) 2 (v := .func (.func 71) #[] #[]) rfl
    have d3 := Blk.cell (HB1.out.nth 0 rfl) 3 (v := .func (.func 72) #[] #[]) rfl
    go_wp2_with fail
    (with_reducible refine (kg _).mono ?_); rintro e1 W2 ⟨rfl, hb2⟩
    have HB2 := Lib.hid (HB1.out.below hb2)
    clear kg hb2 HB1 d0 d1 d2 d3
    go_wp2_with (refine wpList_store_blk (g := w.heap.size) (T := 39) (cs' := #[.int .i64 de, .bool ta, .bool fr, .int .i64 at_]) rfl 39 _ _ rfl rfl rfl (HB2.out.nth 1 rfl) (by kernel_rfl) (by kernel_rfl) (by kernel_rfl) (by kernel_rfl) ?_; intro W9 hW9 hg9 hz9)
    have hVE := HB2.out.be.trans (below_of_only hg9 HB2.out.be.size (fun k hk => by injection hk with hk; omega))
    exact bodyPost_ret (v := .tuple #[.agg #[.int .i64 de, .bool ta, .bool fr, .int .i64 at_], .int .i64 c]) (by refine res_row (fn := Tryz.f24) (p := 2) (q := 3) rfl _ _ w.heap.size 39 _ (0, 0) _ ?_ hW9 Tryz.underlying39 rfl (by kernel_rfl); rfl) rfl ⟨by rfl, hVE⟩
  | false =>
    cases hF : isF t with
    | true =>
      have kf := fun V => find_f t V hM hF
      have kg := fun V h => ct_any t V h hs
      have HE := Lib.hid (show tmT t = (FcC.fdP t).times ∧ tmE t = FcC.fdE t from ⟨by unfold tmT; rw [hM, hF, if_neg (by decide), if_pos rfl], by unfold tmE; rw [hM, hF, if_neg (by decide), if_pos rfl]⟩)
      rw [HE.out.1, HE.out.2]
      obtain ⟨c, hc⟩ : ∃ c, FcC.fdE t = c := ⟨_, rfl⟩
      obtain ⟨Q, hQ⟩ : ∃ Q, (FcC.fdP t).times = Q := ⟨_, rfl⟩
      rw [hc, hQ] at kg ⊢
      clear hc hQ HE hM hF
      obtain ⟨de, ta, fr, at_⟩ := Q
      unfold Ti.vals at kg ⊢
      unfold KF at kf
      dsimp only at kg ⊢
      go_enter Tryz.func24, Tryz.ntmps24
      go_wp2_with fail
      (with_reducible refine (kf _).mono ?_); rintro e1 W1 ⟨rfl, hb1⟩
      have HB1 := Lib.hid ((HB.out.below hb1).new 83 #[.func (.func 73) #[] #[], .func (.func 74) #[] #[], .func (.func 75) #[] #[], .func (.func 76) #[] #[]])
      have HTG := Lib.hid (kg _ (HT.out.be HB1.out.be))
      clear kf hb1 HB kg
      have d0 := Blk.cell (HB1.out.nth 0 rfl) 0 (v := .func (.func 73) #[] #[]) rfl
      have d1 := Blk.cell (HB1.out.nth 0 rfl) 1 (v := .func (.func 74) #[] #[]) rfl
      have d2 := Blk.cell (HB1.out.nth 0 rfl) 2 (v := .func (.func 75) #[] #[]) rfl
      have d3 := Blk.cell (HB1.out.nth 0 rfl) 3 (v := .func (.func 76) #[] #[]) rfl
      go_wp2_with fail
      (with_reducible refine (HTG.out).mono ?_); rintro e1 W2 ⟨rfl, hb2⟩
      have HB2 := Lib.hid (HB1.out.below hb2)
      clear HTG hb2 HB1 d0 d1 d2 d3
      go_wp2_with (refine wpList_store_blk (g := w.heap.size) (T := 39) (cs' := #[.int .i64 de, .bool ta, .bool fr, .int .i64 at_]) rfl 39 _ _ rfl rfl rfl (HB2.out.nth 1 rfl) (by kernel_rfl) (by kernel_rfl) (by kernel_rfl) (by kernel_rfl) ?_; intro W9 hW9 hg9 hz9)
      have hVE := HB2.out.be.trans (below_of_only hg9 HB2.out.be.size (fun k hk => by injection hk with hk; omega))
      exact bodyPost_ret (v := .tuple #[.agg #[.int .i64 de, .bool ta, .bool fr, .int .i64 at_], .int .i64 c]) (by refine res_row (fn := Tryz.f24) (p := 2) (q := 3) rfl _ _ w.heap.size 39 _ (0, 0) _ ?_ hW9 Tryz.underlying39 rfl (by kernel_rfl); rfl) rfl ⟨by rfl, hVE⟩
    | false =>
      have kf := fun V => find_z t V hM hF
      have HE := Lib.hid (show tmT t = zeroT ∧ tmE t = 14 from ⟨by unfold tmT; rw [hM, hF, if_neg (by decide), if_neg (by decide)], by unfold tmE; rw [hM, hF, if_neg (by decide), if_neg (by decide)]⟩)
      rw [HE.out.1, HE.out.2]
      clear HE hM hF
      unfold zeroT Ti.vals
      unfold KZ at kf
      dsimp only
      go_enter Tryz.func24, Tryz.ntmps24
      go_wp2_with fail
      (with_reducible refine (kf _).mono ?_); rintro e1 W1 ⟨rfl, hb1⟩
      have HB1 := Lib.hid ((HB.out.below hb1).new 83 #[.nilFunc, .nilFunc, .nilFunc, .nilFunc])
      clear kf hb1 HB
      go_wp2_with (refine wpList_store_blk (g := w.heap.size) (T := 39) (cs' := #[.int .i64 0, .bool false, .bool false, .int .i64 0]) rfl 39 _ _ rfl rfl rfl (HB1.out.nth 1 rfl) (by kernel_rfl) (by kernel_rfl) (by kernel_rfl) (by kernel_rfl) ?_; intro W9 hW9 hg9 hz9)
      have hVE := HB1.out.be.trans (below_of_only hg9 HB1.out.be.size (fun k hk => by injection hk with hk; omega))
      exact bodyPost_ret (v := .tuple #[.agg #[.int .i64 0, .bool false, .bool false, .int .i64 0], .int .i64 14]) (by refine res_row (fn := Tryz.f24) (p := 2) (q := 3) rfl _ _ w.heap.size 39 _ (0, 0) _ ?_ hW9 Tryz.underlying39 rfl (by kernel_rfl); rfl) rfl ⟨by rfl, hVE⟩
/-- times with another delta -/
noncomputable def tmX (t : ByteArray) (d : Int) : Ti := ⟨d, (tmT t).table, (tmT t).frame, (tmT t).at_⟩
noncomputable def stE (t : ByteArray) (d : Int) : Int := if tmE t ≠ 0 then tmE t else if isM t then MpD.mwE t (tmX t d) else FcD.fwE t (tmX t d)
noncomputable def stS (t : ByteArray) (d : Int) : ByteArray := if tmE t ≠ 0 then nob else if isM t then MpD.mwS t (tmX t d) else FcD.fwS t (tmX t d)
theorem rtimes_any (t : ByteArray) (w : World) (hs : t.size ≤ 1099511627776) : Calls Tryz.prog 12 #[.string t] w fun e w' => e = .returned (.tuple #[.agg (tmT t).vals, .int .i64 (tmE t)]) ∧ Below w.heap.size w w' := by
  have HB := Lib.hid (bk1 w 39 #[.int .i64 0, .bool false, .bool false, .int .i64 0])
  by_cases h0 : t.size = 0
  · have HE := Lib.hid (show tmT t = zeroT ∧ tmE t = 14 from by
      have hM : isM t = false := decide_eq_false (fun h => by omega)
      have hF : isF t = false := decide_eq_false (fun h => by omega)
      exact ⟨by unfold tmT; rw [hM, hF, if_neg (by decide), if_neg (by decide)], by unfold tmE; rw [hM, hF, if_neg (by decide), if_neg (by decide)]⟩)
    have t1 : decide ((0 : Int) < (t.size : Int)) = false := decide_eq_false (by omega)
    have t1' : decide (0 < t.size) = false := decide_eq_false (by omega)
    rw [HE.out.1, HE.out.2]
    unfold zeroT Ti.vals
    dsimp only
    clear h0 HE
    go_enter Tryz.func12, Tryz.ntmps12
    go_wp2_with (refine wpList_store_blk (g := w.heap.size) (T := 39) (cs' := #[.int .i64 0, .bool false, .bool false, .int .i64 0]) rfl 39 _ _ rfl rfl rfl (HB.out.nth 0 rfl) (by kernel_rfl) (by kernel_rfl) (by kernel_rfl) (by kernel_rfl) ?_; intro W9 hW9 hg9 hz9)
    have hVE := HB.out.be.trans (below_of_only hg9 HB.out.be.size (fun k hk => by injection hk with hk; omega))
    exact bodyPost_ret (v := .tuple #[.agg #[.int .i64 0, .bool false, .bool false, .int .i64 0], .int .i64 14]) (by refine res_row (fn := Tryz.f12) (p := 2) (q := 3) rfl _ _ w.heap.size 39 _ (0, 0) _ ?_ hW9 Tryz.underlying39 rfl (by kernel_rfl); rfl) rfl ⟨by rfl, hVE⟩
  · have t1 : decide ((0 : Int) < (t.size : Int)) = true := decide_eq_true (by omega)
    have t1' : decide (0 < t.size) = true := decide_eq_true (by omega)
    have i0 : ∀ V : World, (Instr.index 9 (.string t) (.int .i64 0)).run Tryz.prog V = .ok (.int .u8 (at' t 0)) V := fun V => idx_at t 0 (by omega) V
    have hMe : isM t = decide (at' t 0 = 62) := by unfold isM; by_cases h : at' t 0 = 62 <;> simp [h] <;> omega
    have hFe : isF t = decide (at' t 0 = 120) := by unfold isF; by_cases h : at' t 0 = 120 <;> simp [h] <;> omega
    obtain ⟨b, hb⟩ : ∃ b, at' t 0 = b := ⟨_, rfl⟩
    rw [hb] at i0 hMe hFe
    clear hb
    by_cases hM : b = 62
    · have HE := Lib.hid (show tmT t = (MpC.mdP t).times ∧ tmE t = MpC.mdE t from by
        have h1 : isM t = true := by rw [hMe]; exact decide_eq_true hM
        exact ⟨by unfold tmT; rw [h1, if_pos rfl], by unfold tmE; rw [h1, if_pos rfl]⟩)
      have kd := fun V => MpT.rmdec_any t V hs
      rw [HE.out.1, HE.out.2]
      obtain ⟨c, hc⟩ : ∃ c, MpC.mdE t = c := ⟨_, rfl⟩
      obtain ⟨Q, hQ⟩ : ∃ Q, MpC.mdP t = Q := ⟨_, rfl⟩
      rw [hc, hQ] at kd ⊢
      have t2 : (b == 62) = true := by simpa using hM
      clear hc hQ HE hMe hFe hM
      obtain ⟨ma, ⟨de, ta, fr, at_⟩, te⟩ := Q
      unfold MpA.Mp.vals at kd
      unfold Ti.vals
      dsimp only at kd ⊢
      go_enter Tryz.func12, Tryz.ntmps12
      go_wp2_with fail
      (with_reducible refine (kd _).mono ?_); rintro e1 W1 ⟨rfl, hb1⟩
      have HB1 := Lib.hid ((HB.out.below hb1).new 87 #[.int .i64 ma, .int .i64 de, .bool ta, .bool fr, .int .i64 at_, .string te])
      have hgw := (HB.out.below hb1).lt 0 rfl
      clear kd hb1 HB
      have d0 := Blk.cell (HB1.out.nth 0 rfl) 0 (v := .int .i64 ma) rfl
      have d1 := Blk.cell (HB1.out.nth 0 rfl) 1 (v := .int .i64 de) rfl
      have d2 := Blk.cell (HB1.out.nth 0 rfl) 2 (v := .bool ta) rfl
      have d3 := Blk.cell (HB1.out.nth 0 rfl) 3 (v := .bool fr) rfl
      have d4 := Blk.cell (HB1.out.nth 0 rfl) 4 (v := .int .i64 at_) rfl
      have d5 := Blk.cell (HB1.out.nth 0 rfl) 5 (v := .string te) rfl
      go_wp2_with (refine wpList_store_blk (g := w.heap.size) (T := 39) (cs' := #[.int .i64 de, .bool ta, .bool fr, .int .i64 at_]) rfl 39 _ _ rfl rfl rfl (HB1.out.nth 1 rfl) (by kernel_rfl) (by kernel_rfl) (by kernel_rfl) (by kernel_rfl) ?_; intro W9 hW9 hg9 hz9)
      have hVE := HB1.out.be.trans (below_of_only hg9 HB1.out.be.size (fun k hk => by injection hk with hk; omega))
      exact bodyPost_ret (v := .tuple #[.agg #[.int .i64 de, .bool ta, .bool fr, .int .i64 at_], .int .i64 c]) (by refine res_row (fn := Tryz.f12) (p := 2) (q := 3) rfl _ _ w.heap.size 39 _ (0, 0) _ ?_ hW9 Tryz.underlying39 rfl (by kernel_rfl); rfl) rfl ⟨by rfl, hVE⟩
    · have t2 : (b == 62) = false := beq_eq_false_iff_ne.2 hM
      have h1 : isM t = false := by rw [hMe]; exact decide_eq_false hM
      by_cases hF : b = 120
      · have HE := Lib.hid (show tmT t = (FcC.fdP t).times ∧ tmE t = FcC.fdE t from by
          have h2 : isF t = true := by rw [hFe]; exact decide_eq_true hF
          exact ⟨by unfold tmT; rw [h1, h2, if_neg (by decide), if_pos rfl], by unfold tmE; rw [h1, h2, if_neg (by decide), if_pos rfl]⟩)
        have kd := fun V => FcT.rfdec_any t V hs
        rw [HE.out.1, HE.out.2]
        obtain ⟨c, hc⟩ : ∃ c, FcC.fdE t = c := ⟨_, rfl⟩
        obtain ⟨Q, hQ⟩ : ∃ Q, FcC.fdP t = Q := ⟨_, rfl⟩
        rw [hc, hQ] at kd ⊢
        have t3 : (b == 120) = true := by simpa using hF
        clear hc hQ HE hMe hFe hM hF h1
        obtain ⟨pa, nu, la, ⟨de, ta, fr, at_⟩, te⟩ := Q
        unfold FcA.Fp.vals at kd
        unfold Ti.vals
        dsimp only at kd ⊢
        go_enter Tryz.func12, Tryz.ntmps12
        go_wp2_with fail
        (with_reducible refine (kd _).mono ?_); rintro e1 W1 ⟨rfl, hb1⟩
        have HB1 := Lib.hid ((HB.out.below hb1).new 91 #[.int .i64 pa, .int .i64 nu, .int .i64 la, .int .i64 de, .bool ta, .bool fr, .int .i64 at_, .string te])
        have hgw := (HB.out.below hb1).lt 0 rfl
        clear kd hb1 HB
        have d0 := Blk.cell (HB1.out.nth 0 rfl) 0 (v := .int .i64 pa) rfl
        have d1 := Blk.cell (HB1.out.nth 0 rfl) 1 (v := .int .i64 nu) rfl
        have d2 := Blk.cell (HB1.out.nth 0 rfl) 2 (v := .int .i64 la) rfl
        have d3 := Blk.cell (HB1.out.nth 0 rfl) 3 (v := .int .i64 de) rfl
        have d4 := Blk.cell (HB1.out.nth 0 rfl) 4 (v := .bool ta) rfl
        have d5 := Blk.cell (HB1.out.nth 0 rfl) 5 (v := .bool fr) rfl
        have d6 := Blk.cell (HB1.out.nth 0 rfl) 6 (v := .int .i64 at_) rfl
        have d7 := Blk.cell (HB1.out.nth 0 rfl) 7 (v := .string te) rfl
        go_wp2_with (refine wpList_store_blk (g := w.heap.size) (T := 39) (cs' := #[.int .i64 de, .bool ta, .bool fr, .int .i64 at_]) rfl 39 _ _ rfl rfl rfl (HB1.out.nth 1 rfl) (by kernel_rfl) (by kernel_rfl) (by kernel_rfl) (by kernel_rfl) ?_; intro W9 hW9 hg9 hz9)
        have hVE := HB1.out.be.trans (below_of_only hg9 HB1.out.be.size (fun k hk => by injection hk with hk; omega))
        exact bodyPost_ret (v := .tuple #[.agg #[.int .i64 de, .bool ta, .bool fr, .int .i64 at_], .int .i64 c]) (by refine res_row (fn := Tryz.f12) (p := 2) (q := 3) rfl _ _ w.heap.size 39 _ (0, 0) _ ?_ hW9 Tryz.underlying39 rfl (by kernel_rfl); rfl) rfl ⟨by rfl, hVE⟩
      · have HE := Lib.hid (show tmT t = zeroT ∧ tmE t = 14 from by
          have h2 : isF t = false := by rw [hFe]; exact decide_eq_false hF
          exact ⟨by unfold tmT; rw [h1, h2, if_neg (by decide), if_neg (by decide)], by unfold tmE; rw [h1, h2, if_neg (by decide), if_neg (by decide)]⟩)
        have t3 : (b == 120) = false := beq_eq_false_iff_ne.2 hF
        rw [HE.out.1, HE.out.2]
        unfold zeroT Ti.vals
        dsimp only
        clear HE hMe hFe hM hF h1
        go_enter Tryz.func12, Tryz.ntmps12
        go_wp2_with (refine wpList_store_blk (g := w.heap.size) (T := 39) (cs' := #[.int .i64 0, .bool false, .bool false, .int .i64 0]) rfl 39 _ _ rfl rfl rfl (HB.out.nth 0 rfl) (by kernel_rfl) (by kernel_rfl) (by kernel_rfl) (by kernel_rfl) ?_; intro W9 hW9 hg9 hz9)
        have hVE := HB.out.be.trans (below_of_only hg9 HB.out.be.size (fun k hk => by injection hk with hk; omega))
        exact bodyPost_ret (v := .tuple #[.agg #[.int .i64 0, .bool false, .bool false, .int .i64 0], .int .i64 14]) (by refine res_row (fn := Tryz.f12) (p := 2) (q := 3) rfl _ _ w.heap.size 39 _ (0, 0) _ ?_ hW9 Tryz.underlying39 rfl (by kernel_rfl); rfl) rfl ⟨by rfl, hVE⟩
end Go.Proofs.YthgcmlhmhojjhaaGreatDoor.BuB
