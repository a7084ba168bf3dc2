/- The document's Decode. -/
import Derived.Test.YtfadhgbhdoddpaaSeH
namespace Go.Proofs.Ytfadhgbhdoddpaa.SeI
open Go Go.RowKit Go.Proofs.Ytfadhgbhdoddpaa.Q Go.Proofs.Ytfadhgbhdoddpaa.Mem Go.Proofs.Ytfadhgbhdoddpaa.Rg Go.Proofs.Ytfadhgbhdoddpaa.Ap Go.Proofs.Ytfadhgbhdoddpaa.St Go.Proofs.Ytfadhgbhdoddpaa.BiP Go.Proofs.Ytfadhgbhdoddpaa.BiA Go.Proofs.Ytfadhgbhdoddpaa.BiG Go.Proofs.Ytfadhgbhdoddpaa.BiH Go.Proofs.Ytfadhgbhdoddpaa.CrC Go.Proofs.Ytfadhgbhdoddpaa.CrD Go.Proofs.Ytfadhgbhdoddpaa.SeA Go.Proofs.Ytfadhgbhdoddpaa.SeC Go.Proofs.Ytfadhgbhdoddpaa.SeG Go.Proofs.Ytfadhgbhdoddpaa.SeEq Go.Proofs.Ytfadhgbhdoddpaa.SeH

/-- the section of bytes that were opened -/
def rdS (u : ByteArray) : Sc := ⟨(at0 u 0 : Nat), decide (at0 u 1 / 64 % 2 = 1), (at0 u 3 * 256 + at0 u 4 : Nat), (at0 u 5 / 2 % 32 : Nat), decide (at0 u 5 % 2 = 1), (at0 u 6 : Nat), (at0 u 7 : Nat), u.extract 8 u.size⟩
def fBad (u : ByteArray) : Prop := at0 u 5 / 64 ≠ 3 ∨ at0 u 7 < at0 u 6
instance (u : ByteArray) : Decidable (fBad u) := by unfold fBad; infer_instance
def decE (t : ByteArray) : Int := if needE t ≠ 0 then needE t else if t.size < needN t then 10 else if needN t < t.size then 11 else if openE t ≠ 0 then openE t else if fBad (openS t) then 12 else 0
def zeroS : Sc := ⟨0, false, 0, 0, false, 0, 0, nob⟩
def decS (t : ByteArray) : Sc := if decE t = 0 then rdS (openS t) else zeroS
theorem dec_zero {t : ByteArray} {c : Int} (h : decE t = c) (hc : c ≠ 0) : decE t = c ∧ decS t = zeroS := ⟨h, by unfold decS; rw [if_neg (by rw [h]; exact hc)]⟩
theorem need_le {t : ByteArray} (h : needE t = 0) : 12 ≤ needN t ∧ needN t ≤ 4096 := by
  have : needN t = nN t + 3 := by unfold needN; rw [if_pos h]
  rw [this]
  unfold needE at h
  split at h
  · omega
  · split at h
    · omega
    · rename_i hb; unfold nBad at hb; omega
theorem open_size {t : ByteArray} (h : openE t = 0) (h8 : 12 ≤ t.size) : (openS t).size + 4 = t.size := by
  unfold openS; rw [if_pos h, ByteArray.size_extract]; omega
section
variable {P : Program}
set_option maxRecDepth 100000
theorem res_row {fn : Func} {p q : Tmp} {ty : TypeId} (h : fn.results = #[.cell p ty, .tmp q]) (tmps : Array Value) (w : World) (g : Nat) (t : TypeId) (cs : Array Value) (fr : Nat × Nat) (d : TypeDesc)
    (hp : tmps.getD p undef = .pointer (some ⟨g, 0, none⟩)) (hg : w.heap[g]? = some (.cells cs t fr))
    (hu : P.underlying ty = some d) (hd : (match d with | .struct _ | .array _ _ => true | _ => false) = true) (hi : (P.info? ty).map (·.size) = some cs.size) :
    (results fn tmps).run P w = .ok (.tuple #[.agg cs, tmps.getD q undef]) w := by
  have hp' : tmps[p]?.getD undef = .pointer (some ⟨g, 0, none⟩) := by simpa using hp
  simp [results, h, hp', asAddr, run_loadVar_row w g t ty cs fr d hg hu hd hi]
end
set_option maxRecDepth 100000
theorem rdec_need (t : ByteArray) (w : World) (h1 : ¬ needE t = 0) : Calls Try.prog 33 #[.string t] w fun e w' => e = .returned (.tuple #[.agg (decS t).vals, .int .i64 (decE t)]) ∧ Below w.heap.size w w' := by
  have HB := Lib.hid (bk1 w 67 #[.int .i64 0, .bool false, .int .i64 0, .int .i64 0, .bool false, .int .i64 0, .int .i64 0, .string nob])
  have kn := fun V => rneed_any t V
  have hE4 : decE t = needE t := by unfold decE; rw [if_pos h1]
  obtain ⟨c, hc⟩ : ∃ c, needE t = c := ⟨_, rfl⟩
  rw [hc] at hE4 h1 kn
  have HE := Lib.hid (dec_zero hE4 h1)
  have t4 : (c != 0) = true := by simpa using h1
  clear h1 hE4 hc
  go_enter Try.func33, Try.ntmps33
  go_wp2_with fail
  (with_reducible refine (kn _).mono ?_); rintro e1 W1 ⟨rfl, hb1⟩
  have HB1 := Lib.hid (HB.out.below hb1)
  clear HB hb1 kn
  go_wp2_with (refine wpList_store_blk (g := w.heap.size) (T := 67) (cs' := #[.int .i64 0, .bool false, .int .i64 0, .int .i64 0, .bool false, .int .i64 0, .int .i64 0, .string nob]) rfl 67 _ _ rfl rfl rfl (HB1.out.nth 0 rfl) (by kernel_rfl) (by kernel_rfl) (by kernel_rfl) (by kernel_rfl) ?_; intro W9 hW9 hg9 hz9)
  have hVE := HB1.out.be.trans (below_of_only hg9 HB1.out.size (fun k hk => by injection hk with hk; omega))
  exact bodyPost_ret (v := .tuple #[.agg zeroS.vals, .int .i64 c]) (by refine res_row (fn := Try.f33) (p := 2) (q := 3) rfl _ _ w.heap.size 67 _ (0, 0) _ ?_ hW9 Try.underlying67 rfl (by kernel_rfl); rfl) rfl ⟨by rw [HE.out.1, HE.out.2], hVE⟩
theorem rdec_short (t : ByteArray) (w : World) (h1 : needE t = 0) (h2 : t.size < needN t) : Calls Try.prog 33 #[.string t] w fun e w' => e = .returned (.tuple #[.agg (decS t).vals, .int .i64 (decE t)]) ∧ Below w.heap.size w w' := by
  have HB := Lib.hid (bk1 w 67 #[.int .i64 0, .bool false, .int .i64 0, .int .i64 0, .bool false, .int .i64 0, .int .i64 0, .string nob])
  have kn := fun V => rneed_any t V
  rw [h1] at kn
  obtain ⟨g1, g2⟩ := need_le h1
  obtain ⟨N, hN⟩ : ∃ N, needN t = N := ⟨_, rfl⟩
  rw [hN] at kn g1 g2 h2
  have t2 : decide (t.size < N) = true := by simpa using h2
  have HE := Lib.hid (dec_zero (t := t) (c := 10) (by unfold decE; rw [if_neg (by simpa using h1), if_pos (by rw [hN]; exact h2)]) (by decide))
  clear h1 h2 hN
  go_enter Try.func33, Try.ntmps33
  go_wp2_with fail
  (with_reducible refine (kn _).mono ?_); rintro e1 W1 ⟨rfl, hb1⟩
  have HB1 := Lib.hid (HB.out.below hb1)
  clear HB hb1 kn
  go_wp2_with (refine wpList_store_blk (g := w.heap.size) (T := 67) (cs' := #[.int .i64 0, .bool false, .int .i64 0, .int .i64 0, .bool false, .int .i64 0, .int .i64 0, .string nob]) rfl 67 _ _ rfl rfl rfl (HB1.out.nth 0 rfl) (by kernel_rfl) (by kernel_rfl) (by kernel_rfl) (by kernel_rfl) ?_; intro W9 hW9 hg9 hz9)
  have hVE := HB1.out.be.trans (below_of_only hg9 HB1.out.size (fun k hk => by injection hk with hk; omega))
  exact bodyPost_ret (v := .tuple #[.agg zeroS.vals, .int .i64 10]) (by refine res_row (fn := Try.f33) (p := 2) (q := 3) rfl _ _ w.heap.size 67 _ (0, 0) _ ?_ hW9 Try.underlying67 rfl (by kernel_rfl); rfl) rfl ⟨by rw [HE.out.1, HE.out.2], hVE⟩
theorem rdec_long (t : ByteArray) (w : World) (h1 : needE t = 0) (h3 : needN t < t.size) : Calls Try.prog 33 #[.string t] w fun e w' => e = .returned (.tuple #[.agg (decS t).vals, .int .i64 (decE t)]) ∧ Below w.heap.size w w' := by
  have HB := Lib.hid (bk1 w 67 #[.int .i64 0, .bool false, .int .i64 0, .int .i64 0, .bool false, .int .i64 0, .int .i64 0, .string nob])
  have kn := fun V => rneed_any t V
  rw [h1] at kn
  obtain ⟨g1, g2⟩ := need_le h1
  obtain ⟨N, hN⟩ : ∃ N, needN t = N := ⟨_, rfl⟩
  rw [hN] at kn g1 g2 h3
  have h2 : ¬ t.size < N := by omega
  have t2 : decide (t.size < N) = false := by simpa using h2
  have t3 : decide (N < t.size) = true := by simpa using h3
  have HE := Lib.hid (dec_zero (t := t) (c := 11) (by unfold decE; rw [if_neg (by simpa using h1), if_neg (by rw [hN]; exact h2), if_pos (by rw [hN]; exact h3)]) (by decide))
  clear h1 h2 h3 hN
  go_enter Try.func33, Try.ntmps33
  go_wp2_with fail
  (with_reducible refine (kn _).mono ?_); rintro e1 W1 ⟨rfl, hb1⟩
  have HB1 := Lib.hid (HB.out.below hb1)
  clear HB hb1 kn
  go_wp2_with (refine wpList_store_blk (g := w.heap.size) (T := 67) (cs' := #[.int .i64 0, .bool false, .int .i64 0, .int .i64 0, .bool false, .int .i64 0, .int .i64 0, .string nob]) rfl 67 _ _ rfl rfl rfl (HB1.out.nth 0 rfl) (by kernel_rfl) (by kernel_rfl) (by kernel_rfl) (by kernel_rfl) ?_; intro W9 hW9 hg9 hz9)
  have hVE := HB1.out.be.trans (below_of_only hg9 HB1.out.size (fun k hk => by injection hk with hk; omega))
  exact bodyPost_ret (v := .tuple #[.agg zeroS.vals, .int .i64 11]) (by refine res_row (fn := Try.f33) (p := 2) (q := 3) rfl _ _ w.heap.size 67 _ (0, 0) _ ?_ hW9 Try.underlying67 rfl (by kernel_rfl); rfl) rfl ⟨by rw [HE.out.1, HE.out.2], hVE⟩
theorem rdec_open (t : ByteArray) (w : World) (hs : t.size ≤ 1099511627776) (h1 : needE t = 0) (hq : t.size = needN t) (h4 : ¬ openE t = 0) : Calls Try.prog 33 #[.string t] w fun e w' => e = .returned (.tuple #[.agg (decS t).vals, .int .i64 (decE t)]) ∧ Below w.heap.size w w' := by
  have HB := Lib.hid (bk1 w 67 #[.int .i64 0, .bool false, .int .i64 0, .int .i64 0, .bool false, .int .i64 0, .int .i64 0, .string nob])
  have kn := fun V => rneed_any t V
  rw [h1] at kn
  obtain ⟨g1, g2⟩ := need_le h1
  obtain ⟨N, hN⟩ : ∃ N, needN t = N := ⟨_, rfl⟩
  rw [hN] at kn g1 g2 hq
  have h3 : ¬ N < t.size := by omega
  have hsz : t.size = N := by omega
  have h2 : ¬ t.size < N := by omega
  have ko := fun V => ropen_any t V hs
  have hE4 : decE t = openE t := by unfold decE; rw [if_neg (by simpa using h1), if_neg (by rw [hN]; exact h2), if_neg (by rw [hN]; exact h3), if_pos h4]
  obtain ⟨c, hc⟩ : ∃ c, openE t = c := ⟨_, rfl⟩
  rw [hc] at hE4 h4 ko
  have HE := Lib.hid (dec_zero hE4 h4)
  have t4 : (c != 0) = true := by simpa using h4
  have t2 : decide (t.size < N) = false := by simpa using h2
  have t3 : decide (N < t.size) = false := by simpa using h3
  clear h1 h2 h3 h4 hN hE4 hc hsz
  go_enter Try.func33, Try.ntmps33
  go_wp2_with fail
  (with_reducible refine (kn _).mono ?_); rintro e1 W1 ⟨rfl, hb1⟩
  have HB1 := Lib.hid (HB.out.below hb1)
  clear HB hb1 kn
  go_wp2_with fail
  (with_reducible refine (ko _).mono ?_); rintro e1 W2 ⟨rfl, hb1⟩
  have HB2 := Lib.hid (HB1.out.below hb1)
  clear HB1 hb1 ko
  go_wp2_with (refine wpList_store_blk (g := w.heap.size) (T := 67) (cs' := #[.int .i64 0, .bool false, .int .i64 0, .int .i64 0, .bool false, .int .i64 0, .int .i64 0, .string nob]) rfl 67 _ _ rfl rfl rfl (HB2.out.nth 0 rfl) (by kernel_rfl) (by kernel_rfl) (by kernel_rfl) (by kernel_rfl) ?_; intro W9 hW9 hg9 hz9)
  have hVE := HB2.out.be.trans (below_of_only hg9 HB2.out.size (fun k hk => by injection hk with hk; omega))
  exact bodyPost_ret (v := .tuple #[.agg zeroS.vals, .int .i64 c]) (by refine res_row (fn := Try.f33) (p := 2) (q := 3) rfl _ _ w.heap.size 67 _ (0, 0) _ ?_ hW9 Try.underlying67 rfl (by kernel_rfl); rfl) rfl ⟨by rw [HE.out.1, HE.out.2], hVE⟩
end Go.Proofs.Ytfadhgbhdoddpaa.SeI
