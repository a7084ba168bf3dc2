/- The document's Decode, of bytes that open. -/
import Derived.Test.YtfadhgbhdoddpaaSeI
namespace Go.Proofs.Ytfadhgbhdoddpaa.SeI2
open Go Go.RowKit Go.Proofs.Ytfadhgbhdoddpaa.Q Go.Proofs.Ytfadhgbhdoddpaa.Mem Go.Proofs.Ytfadhgbhdoddpaa.Rg Go.Proofs.Ytfadhgbhdoddpaa.Ap Go.Proofs.Ytfadhgbhdoddpaa.St Go.Proofs.Ytfadhgbhdoddpaa.BiP Go.Proofs.Ytfadhgbhdoddpaa.BiA Go.Proofs.Ytfadhgbhdoddpaa.BiG Go.Proofs.Ytfadhgbhdoddpaa.BiH Go.Proofs.Ytfadhgbhdoddpaa.CrC Go.Proofs.Ytfadhgbhdoddpaa.CrD Go.Proofs.Ytfadhgbhdoddpaa.SeA Go.Proofs.Ytfadhgbhdoddpaa.SeC Go.Proofs.Ytfadhgbhdoddpaa.SeG Go.Proofs.Ytfadhgbhdoddpaa.SeEq Go.Proofs.Ytfadhgbhdoddpaa.SeH Go.Proofs.Ytfadhgbhdoddpaa.SeI

set_option maxRecDepth 100000
set_option maxHeartbeats 1600000 in
theorem rdec_ok (t : ByteArray) (w : World) (hs : t.size ≤ 1099511627776) (h1 : needE t = 0) (hq : t.size = needN t) (h4 : openE t = 0) : Calls Try.prog 33 #[.string t] w fun e w' => e = .returned (.tuple #[.agg (decS t).vals, .int .i64 (decE t)]) ∧ Below w.heap.size w w' := by
  have HB := Lib.hid (bk1 w 67 #[.int .i64 0, .bool false, .int .i64 0, .int .i64 0, .bool false, .int .i64 0, .int .i64 0, .string nob])
  have kn := fun V => rneed_any t V
  rw [h1] at kn
  obtain ⟨g1, g2⟩ := need_le h1
  obtain ⟨N, hN⟩ : ∃ N, needN t = N := ⟨_, rfl⟩
  rw [hN] at kn g1 g2 hq
  have h3 : ¬ N < t.size := by omega
  have hsz : t.size = N := by omega
  have h2 : ¬ t.size < N := by omega
  have ko := fun V => ropen_any t V hs
  rw [h4] at ko
  have hu := open_size h4 (by omega)
  have hE5 : decE t = if fBad (openS t) then 12 else 0 := by unfold decE; rw [if_neg (by simpa using h1), if_neg (by rw [hN]; exact h2), if_neg (by rw [hN]; exact h3), if_neg (by simpa using h4)]
  have hS5 : decS t = if decE t = 0 then rdS (openS t) else zeroS := rfl
  obtain ⟨u, hue⟩ : ∃ u, openS t = u := ⟨_, rfl⟩
  rw [hue] at ko hu hE5 hS5
  have i0 : ∀ V : World, (Instr.index 9 (.string u) (.int .i64 0)).run Try.prog V = .ok (.int .u8 (at0 u 0 : Int)) V := fun V => idx_at u 0 (by omega) V
  have i1 : ∀ V : World, (Instr.index 9 (.string u) (.int .i64 1)).run Try.prog V = .ok (.int .u8 (at0 u 1 : Int)) V := fun V => idx_at u 1 (by omega) V
  have i3 : ∀ V : World, (Instr.index 9 (.string u) (.int .i64 3)).run Try.prog V = .ok (.int .u8 (at0 u 3 : Int)) V := fun V => idx_at u 3 (by omega) V
  have i4 : ∀ V : World, (Instr.index 9 (.string u) (.int .i64 4)).run Try.prog V = .ok (.int .u8 (at0 u 4 : Int)) V := fun V => idx_at u 4 (by omega) V
  have i5 : ∀ V : World, (Instr.index 9 (.string u) (.int .i64 5)).run Try.prog V = .ok (.int .u8 (at0 u 5 : Int)) V := fun V => idx_at u 5 (by omega) V
  have i6 : ∀ V : World, (Instr.index 9 (.string u) (.int .i64 6)).run Try.prog V = .ok (.int .u8 (at0 u 6 : Int)) V := fun V => idx_at u 6 (by omega) V
  have i7 : ∀ V : World, (Instr.index 9 (.string u) (.int .i64 7)).run Try.prog V = .ok (.int .u8 (at0 u 7 : Int)) V := fun V => idx_at u 7 (by omega) V
  have l0 := at0_lt u 0
  have l1 := at0_lt u 1
  have l3 := at0_lt u 3
  have l4 := at0_lt u 4
  have l5 := at0_lt u 5
  have l6 := at0_lt u 6
  have l7 := at0_lt u 7
  have hR : rdS u = ⟨(at0 u 0 : Nat), decide (at0 u 1 / 64 % 2 = 1), (at0 u 3 * 256 + at0 u 4 : Nat), (at0 u 5 / 2 % 32 : Nat), decide (at0 u 5 % 2 = 1), (at0 u 6 : Nat), (at0 u 7 : Nat), u.extract 8 u.size⟩ := rfl
  have hF : fBad u ↔ (at0 u 5 / 64 ≠ 3 ∨ at0 u 7 < at0 u 6) := Iff.rfl
  obtain ⟨a0, e0⟩ : ∃ x, at0 u 0 = x := ⟨_, rfl⟩
  obtain ⟨a1, e1⟩ : ∃ x, at0 u 1 = x := ⟨_, rfl⟩
  obtain ⟨a3, e3⟩ : ∃ x, at0 u 3 = x := ⟨_, rfl⟩
  obtain ⟨a4, e4⟩ : ∃ x, at0 u 4 = x := ⟨_, rfl⟩
  obtain ⟨a5, e5⟩ : ∃ x, at0 u 5 = x := ⟨_, rfl⟩
  obtain ⟨a6, e6⟩ : ∃ x, at0 u 6 = x := ⟨_, rfl⟩
  obtain ⟨a7, e7⟩ : ∃ x, at0 u 7 = x := ⟨_, rfl⟩
  rw [e0] at i0 l0 hR
  rw [e1] at i1 l1 hR
  rw [e3] at i3 l3 hR
  rw [e4] at i4 l4 hR
  rw [e5] at i5 l5 hR hF
  rw [e6] at i6 l6 hR hF
  rw [e7] at i7 l7 hR hF
  have q0 := wrap63 a0 (by omega)
  have q1 := wrap63 a1 (by omega)
  have q3 := wrap63 a3 (by omega)
  have q4 := wrap63 a4 (by omega)
  have q5 := wrap63 a5 (by omega)
  have q6 := wrap63 a6 (by omega)
  have q7 := wrap63 a7 (by omega)
  have r3 : IntKind.i64.wrap ((a3 : Int) * 256) = (a3 : Int) * 256 := by rw [IntKind.wrap_i64]; omega
  have r4 : IntKind.i64.wrap ((a3 : Int) * 256 + (a4 : Int)) = (a3 : Int) * 256 + (a4 : Int) := by rw [IntKind.wrap_i64]; omega
  have s8 : (8 : Int) ≤ (u.size : Int) := by omega
  have z1 : (0 : Int) ≤ (a1 : Int) := by omega
  have z1' : (a1 : Int) ≤ 255 := by omega
  have z5' : (a5 : Int) ≤ 255 := by omega
  have z5 : (0 : Int) ≤ (a5 : Int) := by omega
  have hb1 : ((a1 : Int) / 64 % 2 == 1) = decide (a1 / 64 % 2 = 1) := by
    by_cases hx : a1 / 64 % 2 = 1 <;> simp [hx] <;> omega
  have hb2 : ((a5 : Int) % 2 == 1) = decide (a5 % 2 = 1) := by
    by_cases hx : a5 % 2 = 1 <;> simp [hx] <;> omega
  obtain ⟨b1, eb1⟩ : ∃ x, decide (a1 / 64 % 2 = 1) = x := ⟨_, rfl⟩
  obtain ⟨b2, eb2⟩ : ∃ x, decide (a5 % 2 = 1) = x := ⟨_, rfl⟩
  rw [eb1] at hb1 hR
  rw [eb2] at hb2 hR
  have HR := Lib.hid hR
  have HF := Lib.hid hF
  have HE5 := Lib.hid hE5
  have HS5 := Lib.hid hS5
  have t2 : decide (t.size < N) = false := by simpa using h2
  have t3 : decide (N < t.size) = false := by simpa using h3
  clear h1 h2 h3 h4 hN hue hu hE5 hS5 hR hF e0 e1 e3 e4 e5 e6 e7 l0 l1 l3 l4 l6 l7 hsz eb1 eb2 g1 g2
  go_enter Try.func33, Try.ntmps33
  go_wp2_with fail
  (with_reducible refine (kn _).mono ?_); rintro e1 W1 ⟨rfl, hb1⟩
  have HB1 := Lib.hid (HB.out.below hb1)
  clear HB hb1 kn
  go_wp2_with fail
  (with_reducible refine (ko _).mono ?_); rintro e1 W2 ⟨rfl, hb1⟩
  have HB2 := Lib.hid (HB1.out.below hb1)
  clear HB1 hb1 ko t2 t3
  go_wp2_with fail
  refine Go.Proofs.Ytfadhgbhdoddpaa.Rg.region_new [(32, newB 67 #[.int .i64 0, .bool false, .int .i64 0, .int .i64 0, .bool false, .int .i64 0, .int .i64 0, .string nob] W2.heap.size)] 33 (by kernel_rfl) (by kernel_rfl) (by kernel_rfl) (lk_cons newB_inh lk_nil) (lk_cons newB_mono lk_nil) ?_
  intro σ hσ
  simp only [List.take_succ_cons, List.take_zero, List.drop_succ_cons, List.drop_zero]
  refine Go.Proofs.Ytfadhgbhdoddpaa.Rg.wpN_take 32 (by kernel_rfl) (by kernel_rfl) (by kernel_rfl) ?_
  simp only [List.take_succ_cons, List.take_zero, List.drop_succ_cons, List.drop_zero]
  repeat (go_big_quiet_step (fail))
  refine wpQuiet_nil ?_
  refine wpN_sp _ rfl (by kernel_rfl) (spAt_newB 67 #[.int .i64 0, .bool false, .int .i64 0, .int .i64 0, .bool false, .int .i64 0, .int .i64 0, .string nob] (Nat.le_refl _) (fun _ => rfl)) ?_
  simp only [Act.put, List.setIfInBounds_toArray, List.set_cons_zero, List.set_cons_succ]
  refine wpN_nil ?_
  rintro w9 ⟨pq, rfl⟩ hp
  obtain ⟨gx, hgx, hgl, hgb⟩ := hp 32 _ rfl
  rw [hgx]
  refine wpList_store_blk (cs' := #[.int .i64 (a0 : Int), .bool b1, .int .i64 ((a3 : Int) * 256 + (a4 : Int)), .int .i64 ((a5 : Int) / 2 % 32), .bool b2, .int .i64 (a6 : Int), .int .i64 (a7 : Int), .string (u.extract 8 u.size)]) rfl 67 _ _ rfl rfl rfl hgb (by kernel_rfl) (by kernel_rfl) (by kernel_rfl) (by kernel_rfl) ?_
  intro V hV hgr hsz
  have HB3 := HB2.out.px pq
  have hVB : Bk w V [(w.heap.size, 67, #[.int .i64 0, .bool false, .int .i64 0, .int .i64 0, .bool false, .int .i64 0, .int .i64 0, .string nob])] := ⟨HB3.be.trans (below_of_only hgr HB3.size (fun k hk => by injection hk with hk; have := HB2.out.size; omega)), fun x hx => by
    rcases List.mem_cons.1 hx with rfl | hx
    · exact Blk.grown (HB3.nth 0 rfl) hgr (by have := HB2.out.lt 0 rfl; simp at this ⊢; omega)
    · cases hx⟩
  have HV := Lib.hid hV
  have HVB := Lib.hid hVB
  have c0 := Blk.cell (hV) 0 (v := .int .i64 (a0 : Int)) rfl
  have c1 := Blk.cell (hV) 1 (v := .bool b1) rfl
  have c2 := Blk.cell (hV) 2 (v := .int .i64 ((a3 : Int) * 256 + (a4 : Int))) rfl
  have c3 := Blk.cell (hV) 3 (v := .int .i64 ((a5 : Int) / 2 % 32)) rfl
  have c4 := Blk.cell (hV) 4 (v := .bool b2) rfl
  have c5 := Blk.cell (hV) 5 (v := .int .i64 (a6 : Int)) rfl
  have c6 := Blk.cell (hV) 6 (v := .int .i64 (a7 : Int)) rfl
  have c7 := Blk.cell (hV) 7 (v := .string (u.extract 8 u.size)) rfl
  clear hV hgr hVB HB3 hgb hp hσ i0 i1 i3 i4 i5 i6 i7 q0 q1 q3 q4 q5 q6 q7 r3 r4 hb1 hb2 hsz hgx hgl
  by_cases hbad : a5 / 64 ≠ 3 ∨ a7 < a6
  · have HE := Lib.hid (dec_zero (t := t) (c := 12) (by rw [HE5.out, if_pos (HF.out.2 hbad)]) (by decide))
    have HBad := Lib.hid hbad
    by_cases h5 : a5 / 64 = 3
    · have t5 : ((a5 : Int) / 64 != 3) = false := by simp; omega
      have t6 : decide (a7 < a6) = true := by simp; omega
      clear hbad h5
      go_wp2_with (refine wpList_store_blk (g := w.heap.size) (T := 67) (cs' := #[.int .i64 0, .bool false, .int .i64 0, .int .i64 0, .bool false, .int .i64 0, .int .i64 0, .string nob]) rfl 67 _ _ rfl rfl rfl (HVB.out.nth 0 rfl) (by kernel_rfl) (by kernel_rfl) (by kernel_rfl) (by kernel_rfl) ?_; intro W9 hW9 hg9 hz9)
      have hVE := HVB.out.be.trans (below_of_only hg9 HVB.out.size (fun k hk => by injection hk with hk; omega))
      exact bodyPost_ret (v := .tuple #[.agg zeroS.vals, .int .i64 12]) (by refine res_row (fn := Try.f33) (p := 2) (q := 3) rfl _ _ w.heap.size 67 _ (0, 0) _ ?_ hW9 Try.underlying67 rfl (by kernel_rfl); rfl) rfl ⟨by rw [HE.out.1, HE.out.2], hVE⟩
    · have t5 : ((a5 : Int) / 64 != 3) = true := by simp; omega
      clear hbad h5
      go_wp2_with (refine wpList_store_blk (g := w.heap.size) (T := 67) (cs' := #[.int .i64 0, .bool false, .int .i64 0, .int .i64 0, .bool false, .int .i64 0, .int .i64 0, .string nob]) rfl 67 _ _ rfl rfl rfl (HVB.out.nth 0 rfl) (by kernel_rfl) (by kernel_rfl) (by kernel_rfl) (by kernel_rfl) ?_; intro W9 hW9 hg9 hz9)
      have hVE := HVB.out.be.trans (below_of_only hg9 HVB.out.size (fun k hk => by injection hk with hk; omega))
      exact bodyPost_ret (v := .tuple #[.agg zeroS.vals, .int .i64 12]) (by refine res_row (fn := Try.f33) (p := 2) (q := 3) rfl _ _ w.heap.size 67 _ (0, 0) _ ?_ hW9 Try.underlying67 rfl (by kernel_rfl); rfl) rfl ⟨by rw [HE.out.1, HE.out.2], hVE⟩
  · have h0 : decE t = 0 := by rw [HE5.out, if_neg (fun h => hbad (HF.out.1 h))]
    have HE := Lib.hid (show decE t = 0 ∧ decS t = ⟨(a0 : Int), b1, ((a3 * 256 + a4 : Nat) : Int), ((a5 / 2 % 32 : Nat) : Int), b2, (a6 : Int), (a7 : Int), u.extract 8 u.size⟩ from ⟨h0, by rw [HS5.out, if_pos h0, HR.out]⟩)
    have t5 : ((a5 : Int) / 64 != 3) = false := by simp; omega
    have t6 : decide (a7 < a6) = false := by simp; omega
    clear hbad h0
    go_wp2_with (refine wpList_store_blk (g := w.heap.size) (T := 67) (cs' := #[.int .i64 (a0 : Int), .bool b1, .int .i64 ((a3 : Int) * 256 + (a4 : Int)), .int .i64 ((a5 : Int) / 2 % 32), .bool b2, .int .i64 (a6 : Int), .int .i64 (a7 : Int), .string (u.extract 8 u.size)]) rfl 67 _ _ rfl rfl rfl (HVB.out.nth 0 rfl) (by kernel_rfl) (by kernel_rfl) (by kernel_rfl) (by kernel_rfl) ?_; intro W9 hW9 hg9 hz9)
    have hVE := HVB.out.be.trans (below_of_only hg9 HVB.out.size (fun k hk => by injection hk with hk; omega))
    exact bodyPost_ret (v := .tuple #[.agg #[.int .i64 (a0 : Int), .bool b1, .int .i64 ((a3 : Int) * 256 + (a4 : Int)), .int .i64 ((a5 : Int) / 2 % 32), .bool b2, .int .i64 (a6 : Int), .int .i64 (a7 : Int), .string (u.extract 8 u.size)], .int .i64 0]) (by refine res_row (fn := Try.f33) (p := 2) (q := 3) rfl _ _ w.heap.size 67 _ (0, 0) _ ?_ hW9 Try.underlying67 rfl (by kernel_rfl); rfl) rfl ⟨by rw [HE.out.1, HE.out.2]; simp [Sc.vals], hVE⟩
theorem rdecode_any (t : ByteArray) (w : World) (hs : t.size ≤ 1099511627776) : Calls Try.prog 33 #[.string t] w fun e w' => e = .returned (.tuple #[.agg (decS t).vals, .int .i64 (decE t)]) ∧ Below w.heap.size w w' := by
  by_cases h1 : needE t = 0
  · by_cases h2 : t.size < needN t
    · exact rdec_short t w h1 h2
    · by_cases h3 : needN t < t.size
      · exact rdec_long t w h1 h3
      · by_cases h4 : openE t = 0
        · exact rdec_ok t w hs h1 (by omega) h4
        · exact rdec_open t w hs h1 (by omega) h4
  · exact rdec_need t w h1
end Go.Proofs.Ytfadhgbhdoddpaa.SeI2
