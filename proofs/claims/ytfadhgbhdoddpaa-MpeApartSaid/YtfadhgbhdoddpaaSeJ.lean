/- section: Decode. -/
import Derived.Test.YtfadhgbhdoddpaaSeI2
namespace Go.Proofs.Ytfadhgbhdoddpaa.SeJ
open Go Go.RowKit Go.Proofs.Ytfadhgbhdoddpaa.Q Go.Proofs.Ytfadhgbhdoddpaa.Mem Go.Proofs.Ytfadhgbhdoddpaa.Rg Go.Proofs.Ytfadhgbhdoddpaa.Ap Go.Proofs.Ytfadhgbhdoddpaa.St Go.Proofs.Ytfadhgbhdoddpaa.BiP Go.Proofs.Ytfadhgbhdoddpaa.BiA Go.Proofs.Ytfadhgbhdoddpaa.BiG Go.Proofs.Ytfadhgbhdoddpaa.BiH Go.Proofs.Ytfadhgbhdoddpaa.CrC Go.Proofs.Ytfadhgbhdoddpaa.CrD Go.Proofs.Ytfadhgbhdoddpaa.SeA Go.Proofs.Ytfadhgbhdoddpaa.SeC Go.Proofs.Ytfadhgbhdoddpaa.SeG Go.Proofs.Ytfadhgbhdoddpaa.SeEq Go.Proofs.Ytfadhgbhdoddpaa.SeH Go.Proofs.Ytfadhgbhdoddpaa.SeI

theorem swap {w W : World} {x y : Nat × TypeId × Array Value} {L : List (Nat × TypeId × Array Value)} (h : Bk w W (x :: y :: L)) : Bk w W (y :: x :: L) := ⟨h.be, fun z hz => h.all z (by simp at hz ⊢; rcases hz with h | h | h; (exact Or.inr (Or.inl h)); (exact Or.inl h); (exact Or.inr (Or.inr h)))⟩
set_option maxRecDepth 100000
theorem dec_need (t : ByteArray) (w : World) (hs : t.size ≤ 1099511627776) (h1 : ¬ needE t = 0) : Calls Try.prog 31 #[.string t] w fun e w' => e = .returned (.tuple #[.agg (decS t).vals, .int .i64 (decE t)]) ∧ Below w.heap.size w w' := by
  have HB := Lib.hid (bk1 w 57 #[.int .i64 0, .bool false, .int .i64 0, .int .i64 0, .bool false, .int .i64 0, .int .i64 0, .string nob])
  have kn := fun V => need_any t V hs
  have hE4 : decE t = needE t := by unfold decE; rw [if_pos h1]
  obtain ⟨c, hc⟩ : ∃ c, needE t = c := ⟨_, rfl⟩
  rw [hc] at hE4 h1 kn
  have HE := Lib.hid (dec_zero hE4 h1)
  have t4 : (c != 0) = true := by simpa using h1
  clear h1 hE4 hc
  go_enter Try.func31, Try.ntmps31
  go_wp2_with fail
  (with_reducible refine (kn _).mono ?_); rintro e1 W1 ⟨rfl, hb1⟩
  have HB1 := Lib.hid (HB.out.below hb1)
  have HBE := Lib.hid HB1.out.be
  clear HB hb1 kn
  go_wp2_with (refine wpList_store_blk (g := w.heap.size) (T := 57) (cs' := #[.int .i64 0, .bool false, .int .i64 0, .int .i64 0, .bool false, .int .i64 0, .int .i64 0, .string nob]) rfl 57 _ _ rfl rfl rfl (HB1.out.nth 0 rfl) (by kernel_rfl) (by kernel_rfl) (by kernel_rfl) (by kernel_rfl) ?_; intro W9 hW9 hg9 hz9)
  have hVE := HBE.out.trans (below_of_only hg9 HBE.out.size (fun k hk => by injection hk with hk; omega))
  exact bodyPost_ret (v := .tuple #[.agg zeroS.vals, .int .i64 c]) (by refine res_row (fn := Try.f31) (p := 2) (q := 3) rfl _ _ w.heap.size 57 _ (0, 0) _ ?_ hW9 Try.underlying57 rfl (by kernel_rfl); rfl) rfl ⟨by rw [HE.out.1, HE.out.2], hVE⟩
theorem dec_len (t : ByteArray) (w : World) (hs : t.size ≤ 1099511627776) (h1 : needE t = 0) (hq : t.size ≠ needN t) : Calls Try.prog 31 #[.string t] w fun e w' => e = .returned (.tuple #[.agg (decS t).vals, .int .i64 (decE t)]) ∧ Below w.heap.size w w' := by
  have HB := Lib.hid (bk1 w 57 #[.int .i64 0, .bool false, .int .i64 0, .int .i64 0, .bool false, .int .i64 0, .int .i64 0, .string nob])
  have kn := fun V => need_any t V hs
  rw [h1] at kn
  obtain ⟨N, hN⟩ : ∃ N, needN t = N := ⟨_, rfl⟩
  rw [hN] at kn hq
  by_cases h2 : t.size < N
  · have t2 : decide (t.size < N) = true := by simpa using h2
    have HE := Lib.hid (dec_zero (t := t) (c := 10) (by unfold decE; rw [if_neg (by simpa using h1), if_pos (by rw [hN]; exact h2)]) (by decide))
    clear h1 h2 hN hq
    go_enter Try.func31, Try.ntmps31
    go_wp2_with fail
    (with_reducible refine (kn _).mono ?_); rintro e1 W1 ⟨rfl, hb1⟩
    have HB1 := Lib.hid (HB.out.below hb1)
    have HBE := Lib.hid HB1.out.be
    clear HB hb1 kn
    go_wp2_with (refine wpList_store_blk (g := w.heap.size) (T := 57) (cs' := #[.int .i64 0, .bool false, .int .i64 0, .int .i64 0, .bool false, .int .i64 0, .int .i64 0, .string nob]) rfl 57 _ _ rfl rfl rfl (HB1.out.nth 0 rfl) (by kernel_rfl) (by kernel_rfl) (by kernel_rfl) (by kernel_rfl) ?_; intro W9 hW9 hg9 hz9)
    have hVE := HBE.out.trans (below_of_only hg9 HBE.out.size (fun k hk => by injection hk with hk; omega))
    exact bodyPost_ret (v := .tuple #[.agg zeroS.vals, .int .i64 10]) (by refine res_row (fn := Try.f31) (p := 2) (q := 3) rfl _ _ w.heap.size 57 _ (0, 0) _ ?_ hW9 Try.underlying57 rfl (by kernel_rfl); rfl) rfl ⟨by rw [HE.out.1, HE.out.2], hVE⟩
  · have h3 : N < t.size := by omega
    have t2 : decide (t.size < N) = false := by simpa using h2
    have t3 : decide (N < t.size) = true := by simpa using h3
    have HE := Lib.hid (dec_zero (t := t) (c := 11) (by unfold decE; rw [if_neg (by simpa using h1), if_neg (by rw [hN]; exact h2), if_pos (by rw [hN]; exact h3)]) (by decide))
    clear h1 h2 h3 hN hq
    go_enter Try.func31, Try.ntmps31
    go_wp2_with fail
    (with_reducible refine (kn _).mono ?_); rintro e1 W1 ⟨rfl, hb1⟩
    have HB1 := Lib.hid (HB.out.below hb1)
    have HBE := Lib.hid HB1.out.be
    clear HB hb1 kn
    go_wp2_with (refine wpList_store_blk (g := w.heap.size) (T := 57) (cs' := #[.int .i64 0, .bool false, .int .i64 0, .int .i64 0, .bool false, .int .i64 0, .int .i64 0, .string nob]) rfl 57 _ _ rfl rfl rfl (HB1.out.nth 0 rfl) (by kernel_rfl) (by kernel_rfl) (by kernel_rfl) (by kernel_rfl) ?_; intro W9 hW9 hg9 hz9)
    have hVE := HBE.out.trans (below_of_only hg9 HBE.out.size (fun k hk => by injection hk with hk; omega))
    exact bodyPost_ret (v := .tuple #[.agg zeroS.vals, .int .i64 11]) (by refine res_row (fn := Try.f31) (p := 2) (q := 3) rfl _ _ w.heap.size 57 _ (0, 0) _ ?_ hW9 Try.underlying57 rfl (by kernel_rfl); rfl) rfl ⟨by rw [HE.out.1, HE.out.2], hVE⟩
theorem dec_open (t : ByteArray) (w : World) (hs : t.size ≤ 1099511627776) (h1 : needE t = 0) (hq : t.size = needN t) (h4 : ¬ openE t = 0) : Calls Try.prog 31 #[.string t] w fun e w' => e = .returned (.tuple #[.agg (decS t).vals, .int .i64 (decE t)]) ∧ Below w.heap.size w w' := by
  have HB := Lib.hid (bk1 w 57 #[.int .i64 0, .bool false, .int .i64 0, .int .i64 0, .bool false, .int .i64 0, .int .i64 0, .string nob])
  have kn := fun V => need_any t V hs
  rw [h1] at kn
  obtain ⟨N, hN⟩ : ∃ N, needN t = N := ⟨_, rfl⟩
  rw [hN] at kn hq
  have ko := fun V => open_any t V hs
  have hE4 : decE t = openE t := by unfold decE; rw [if_neg (by simpa using h1), if_neg (by rw [hN]; omega), if_neg (by rw [hN]; omega), if_pos h4]
  obtain ⟨c, hc⟩ : ∃ c, openE t = c := ⟨_, rfl⟩
  rw [hc] at hE4 h4 ko
  have HE := Lib.hid (dec_zero hE4 h4)
  have t4 : (c != 0) = true := by simpa using h4
  have t2 : decide (t.size < N) = false := by simp; omega
  have t3 : decide (N < t.size) = false := by simp; omega
  clear h1 h4 hN hE4 hc hq
  go_enter Try.func31, Try.ntmps31
  go_wp2_with fail
  (with_reducible refine (kn _).mono ?_); rintro e1 W1 ⟨rfl, hb1⟩
  have HB1 := Lib.hid (HB.out.below hb1)
  clear HB hb1 kn
  go_wp2_with fail
  (with_reducible refine (ko _).mono ?_); rintro e1 W2 ⟨rfl, hb1⟩
  have HB2 := Lib.hid (HB1.out.below hb1)
  have HBE := Lib.hid HB2.out.be
  clear HB1 hb1 ko
  go_wp2_with (refine wpList_store_blk (g := w.heap.size) (T := 57) (cs' := #[.int .i64 0, .bool false, .int .i64 0, .int .i64 0, .bool false, .int .i64 0, .int .i64 0, .string nob]) rfl 57 _ _ rfl rfl rfl (HB2.out.nth 0 rfl) (by kernel_rfl) (by kernel_rfl) (by kernel_rfl) (by kernel_rfl) ?_; intro W9 hW9 hg9 hz9)
  have hVE := HBE.out.trans (below_of_only hg9 HBE.out.size (fun k hk => by injection hk with hk; omega))
  exact bodyPost_ret (v := .tuple #[.agg zeroS.vals, .int .i64 c]) (by refine res_row (fn := Try.f31) (p := 2) (q := 3) rfl _ _ w.heap.size 57 _ (0, 0) _ ?_ hW9 Try.underlying57 rfl (by kernel_rfl); rfl) rfl ⟨by rw [HE.out.1, HE.out.2], hVE⟩
end Go.Proofs.Ytfadhgbhdoddpaa.SeJ
