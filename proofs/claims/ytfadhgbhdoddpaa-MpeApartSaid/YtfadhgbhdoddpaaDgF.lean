/- The document's Peek of a datagram. -/
import Derived.Test.YtfadhgbhdoddpaaDgD
namespace Go.Proofs.Ytfadhgbhdoddpaa.DgF
open Go Go.RowKit Go.Proofs.Ytfadhgbhdoddpaa.Q Go.Proofs.Ytfadhgbhdoddpaa.Mem Go.Proofs.Ytfadhgbhdoddpaa.Rg Go.Proofs.Ytfadhgbhdoddpaa.Ap Go.Proofs.Ytfadhgbhdoddpaa.St Go.Proofs.Ytfadhgbhdoddpaa.BiH Go.Proofs.Ytfadhgbhdoddpaa.SeI Go.Proofs.Ytfadhgbhdoddpaa.SeEq Go.Proofs.Ytfadhgbhdoddpaa.DgP Go.Proofs.Ytfadhgbhdoddpaa.DgB Go.Proofs.Ytfadhgbhdoddpaa.DgC

/-- a store into the first of known blocks -/
theorem bk_put1 {w W : World} {g : Nat} {T : TypeId} {cs : Array Value} {L : List (Nat × TypeId × Array Value)} (h : Bk w W ((g, T, cs) :: L)) (hg : w.heap.size ≤ g) (hL : ∀ x ∈ L, x.1 ≠ g) (i : Nat) (v : Value) :
    Bk w (W.setCell ⟨g, i, none⟩ v) ((g, T, cs.setIfInBounds i v) :: L) :=
  ⟨h.be.setCell (p := ⟨g, i, none⟩) hg v, fun x hx => by
    rcases List.mem_cons.1 hx with rfl | hx
    · exact Blk.set_ (h.nth 0 rfl) i v
    · exact Blk.far (h.all x (List.mem_cons_of_mem _ hx)) (hL x hx) v⟩
set_option maxRecDepth 100000
set_option maxHeartbeats 3200000 in
theorem rpeek_any (s : ByteArray) (w : World) (hs : s.size ≤ 1099511627776) : Calls Try.prog 43 #[.string s] w fun e w' => e = .returned (.tuple #[.agg (pkH s).vals, .int .i64 (pkE s)]) ∧ Below w.heap.size w w' := by
  have HB0 := Lib.hid (bk1 w 83 zh)
  by_cases h0 : s.size = 0
  · have HE := Lib.hid (pk_zero (s := s) (c := 10) (by unfold pkE; rw [if_pos h0]) (by decide))
    have t0 : ((s.size : Int) == 0) = true := beq_iff_eq.2 (by omega)
    clear h0 hs
    go_enter Try.func43, Try.ntmps43
    go_wp2_with (refine wpList_store_blk (g := w.heap.size) (T := 83) (cs' := zh) rfl 83 _ _ rfl rfl rfl (HB0.out.nth 0 rfl) (by kernel_rfl) (by kernel_rfl) (by kernel_rfl) (by kernel_rfl) ?_; intro W9 hW9 hg9 hz9)
    have hVE := HB0.out.be.trans (below_of_only hg9 HB0.out.be.size (fun k hk => by injection hk with hk; omega))
    exact bodyPost_ret (v := .tuple #[.agg zh, .int .i64 10]) (by refine res_row (fn := Try.f43) (p := 2) (q := 3) rfl _ _ w.heap.size 83 _ (0, 0) _ ?_ hW9 Try.underlying83 rfl (by kernel_rfl); rfl) rfl ⟨by first | (rw [HE.out.1, HE.out.2]; rfl), hVE⟩
  · have t0 : ((s.size : Int) == 0) = false := beq_eq_false_iff_ne.2 (by omega)
    have e4 : at0 s 0 / 16 = 4 → pkE s = (if s.size < 20 then 10 else hdE (hd4 s) 20) ∧ pkH s = if pkE s = 0 then hd4 s else zeroH := fun e => ⟨by unfold pkE; rw [if_neg h0, if_pos e], by unfold pkH; rw [if_pos e]⟩
    have e6 : at0 s 0 / 16 = 6 → pkE s = (if s.size < 40 then 10 else hdE (hd6 s) 40) ∧ pkH s = if pkE s = 0 then hd6 s else zeroH := fun e => ⟨by unfold pkE; rw [if_neg h0, if_neg (by omega), if_pos e], by unfold pkH; rw [if_neg (show ¬ at0 s 0 / 16 = 4 by omega)]⟩
    have e0 : at0 s 0 / 16 ≠ 4 → at0 s 0 / 16 ≠ 6 → pkE s = 14 := fun a b => by unfold pkE; rw [if_neg h0, if_neg a, if_neg b]
    have hd4e : hd4 s = ⟨4, 4 * ((at0 s 0 : Int) % 16), 256 * (at0 s 2 : Int) + at0 s 3, at0 s 9⟩ := rfl
    have hd6e : hd6 s = ⟨6, 40, 40 + (256 * (at0 s 4 : Int) + at0 s 5), at0 s 6⟩ := rfl
    have i0 : ∀ V : World, (Instr.index 9 (.string s) (.int .i64 0)).run Try.prog V = .ok (.int .u8 (at0 s 0 : Int)) V := fun V => idx_at s 0 (by omega) V
    have l0 := at0_lt s 0
    obtain ⟨x, hx⟩ : ∃ x, at0 s 0 = x := ⟨_, rfl⟩
    rw [hx] at i0 l0
    have z0 : (x : Int) ≤ 255 := by omega
    rw [hx] at e4 e6 e0 hd4e
    by_cases v4 : x / 16 = 4
    · obtain ⟨g1, g2⟩ := e4 v4
      have q1 : (x : Int) / 16 = 4 := by omega
      have q2 : (x : Int).tdiv 16 = 4 := by rw [Int.tdiv_eq_ediv_of_nonneg (by omega)]; exact q1
      by_cases hl : s.size < 20
      · have t3 : decide ((s.size : Int) < 20) = true := by simp; omega
        rw [if_pos hl] at g1
        have HE := Lib.hid (pk_zero g1 (by decide))
        clear e4 e6 e0 v4 g1 g2 hl hd4e hd6e hx l0 h0
        go_enter Try.func43, Try.ntmps43
        go_wp2_with (refine wpList_store_blk (g := w.heap.size) (T := 83) (cs' := zh) rfl 83 _ _ rfl rfl rfl (HB0.out.nth 0 rfl) (by kernel_rfl) (by kernel_rfl) (by kernel_rfl) (by kernel_rfl) ?_; intro W9 hW9 hg9 hz9)
        have hVE := HB0.out.be.trans (below_of_only hg9 HB0.out.be.size (fun k hk => by injection hk with hk; omega))
        exact bodyPost_ret (v := .tuple #[.agg zh, .int .i64 10]) (by refine res_row (fn := Try.f43) (p := 2) (q := 3) rfl _ _ w.heap.size 83 _ (0, 0) _ ?_ hW9 Try.underlying83 rfl (by kernel_rfl); rfl) rfl ⟨by first | (rw [HE.out.1, HE.out.2]; rfl), hVE⟩
      · have t3 : decide ((s.size : Int) < 20) = false := by simp; omega
        rw [if_neg hl] at g1
        have i2 : ∀ V : World, (Instr.index 9 (.string s) (.int .i64 2)).run Try.prog V = .ok (.int .u8 (at0 s 2 : Int)) V := fun V => idx_at s 2 (by omega) V
        have l2 := at0_lt s 2
        obtain ⟨x2, hx2⟩ : ∃ x, at0 s 2 = x := ⟨_, rfl⟩
        rw [hx2] at i2 l2
        have z2 : (x2 : Int) ≤ 255 := by omega
        have i3 : ∀ V : World, (Instr.index 9 (.string s) (.int .i64 3)).run Try.prog V = .ok (.int .u8 (at0 s 3 : Int)) V := fun V => idx_at s 3 (by omega) V
        have l3 := at0_lt s 3
        obtain ⟨x3, hx3⟩ : ∃ x, at0 s 3 = x := ⟨_, rfl⟩
        rw [hx3] at i3 l3
        have z3 : (x3 : Int) ≤ 255 := by omega
        have i4 : ∀ V : World, (Instr.index 9 (.string s) (.int .i64 4)).run Try.prog V = .ok (.int .u8 (at0 s 4 : Int)) V := fun V => idx_at s 4 (by omega) V
        have l4 := at0_lt s 4
        obtain ⟨x4, hx4⟩ : ∃ x, at0 s 4 = x := ⟨_, rfl⟩
        rw [hx4] at i4 l4
        have z4 : (x4 : Int) ≤ 255 := by omega
        have i5 : ∀ V : World, (Instr.index 9 (.string s) (.int .i64 5)).run Try.prog V = .ok (.int .u8 (at0 s 5 : Int)) V := fun V => idx_at s 5 (by omega) V
        have l5 := at0_lt s 5
        obtain ⟨x5, hx5⟩ : ∃ x, at0 s 5 = x := ⟨_, rfl⟩
        rw [hx5] at i5 l5
        have z5 : (x5 : Int) ≤ 255 := by omega
        have i6 : ∀ V : World, (Instr.index 9 (.string s) (.int .i64 6)).run Try.prog V = .ok (.int .u8 (at0 s 6 : Int)) V := fun V => idx_at s 6 (by omega) V
        have l6 := at0_lt s 6
        obtain ⟨p6, hp6⟩ : ∃ x, at0 s 6 = x := ⟨_, rfl⟩
        rw [hp6] at i6 l6
        have z6 : (p6 : Int) ≤ 255 := by omega
        have i9 : ∀ V : World, (Instr.index 9 (.string s) (.int .i64 9)).run Try.prog V = .ok (.int .u8 (at0 s 9 : Int)) V := fun V => idx_at s 9 (by omega) V
        have l9 := at0_lt s 9
        obtain ⟨p9, hp9⟩ : ∃ x, at0 s 9 = x := ⟨_, rfl⟩
        rw [hp9] at i9 l9
        have z9 : (p9 : Int) ≤ 255 := by omega
        rw [hx2, hx3, hp9] at hd4e
        rw [hd4e] at g1 g2
        unfold hdE at g1
        dsimp only at g1
        have HB := Lib.hid (bk2 w 83 83 zh #[.int .i64 6, .int .i64 40, .int .i64 0, .int .i64 (p6 : Int)])
        clear e4 e6 e0 v4 hl hd4e hd6e hx hx2 hx3 hx4 hx5 hp6 hp9 l0 l2 l3 l4 l5 l6 l9 h0
        by_cases p1 : 4 * ((x : Int) % 16) < 20
        · have t4 : decide (4 * ((x : Int) % 16) < 20) = true := by simpa using p1
          have HE := Lib.hid (pk_zero (g1.trans (if_pos (Or.inl p1))) (by decide))
          clear g1 g2 p1
          go_enter Try.func43, Try.ntmps43
          go_wp2_with fail
          refine Go.Proofs.Ytfadhgbhdoddpaa.Q.region_ext_tail 10 (by kernel_rfl) (by kernel_rfl) ?_
          simp only [List.take_succ_cons, List.take_zero, List.drop_succ_cons, List.drop_zero]
          repeat (go_big_quiet_step (fail))
          refine wpQuiet_nil ?_
          rintro w9 ⟨pq, rfl⟩
          have HB1 := Lib.hid (HB.out.px pq)
          have d0 := Blk.cell (HB1.out.nth 0 rfl) 0 (v := .int .i64 6) rfl
          have d1 := Blk.cell (HB1.out.nth 0 rfl) 1 (v := .int .i64 40) rfl
          have d2 := Blk.cell (HB1.out.nth 0 rfl) 2 (v := .int .i64 0) rfl
          have d3 := Blk.cell (HB1.out.nth 0 rfl) 3 (v := .int .i64 (p6 : Int)) rfl
          have f2 := Blk.frozen (HB1.out.nth 0 rfl) 2
          have HB2 := Lib.hid (bk_put1 HB1.out (Nat.le_succ _) (by simp) 2 (.int .i64 (40 + 256 * (x4 : Int) + (x5 : Int))))
          go_wp2_with fail
          refine wp_gen (fun V => Bk w V [(w.heap.size + 1, 83, #[.int .i64 6, .int .i64 40, .int .i64 (40 + 256 * (x4 : Int) + (x5 : Int)), .int .i64 (p6 : Int)]), (w.heap.size, 83, zh)]) HB2.out ?_
          intro V HV
          have HV := Lib.hid HV
          clear HB HB1 HB2 d0 d1 d2 d3 f2
          have d0 := Blk.cell (HV.out.nth 0 rfl) 0 (v := .int .i64 6) rfl
          have d1 := Blk.cell (HV.out.nth 0 rfl) 1 (v := .int .i64 40) rfl
          have d2 := Blk.cell (HV.out.nth 0 rfl) 2 (v := .int .i64 (40 + 256 * (x4 : Int) + (x5 : Int))) rfl
          have d3 := Blk.cell (HV.out.nth 0 rfl) 3 (v := .int .i64 (p6 : Int)) rfl
          go_wp2_with fail
          refine Go.Proofs.Ytfadhgbhdoddpaa.Q.region_ext_tail 17 (by kernel_rfl) (by kernel_rfl) ?_
          simp only [List.take_succ_cons, List.take_zero, List.drop_succ_cons, List.drop_zero]
          repeat (go_big_quiet_step (fail))
          refine wpQuiet_nil ?_
          rintro w9 ⟨pq, rfl⟩
          have HB3 := Lib.hid (HV.out.px pq)
          refine wpList_store_blk (g := w.heap.size + 1) (T := 83) (cs' := #[.int .i64 4, .int .i64 (4 * ((x : Int) % 16)), .int .i64 (256 * (x2 : Int) + (x3 : Int)), .int .i64 (p9 : Int)]) rfl 83 _ _ rfl rfl rfl (HB3.out.nth 0 rfl) (by kernel_rfl) (by kernel_rfl) (by kernel_rfl) (by kernel_rfl) ?_
          intro V2 hV2 hgr hsz
          have HF := Lib.hid (show Bk w V2 [(w.heap.size + 1, 83, #[.int .i64 4, .int .i64 (4 * ((x : Int) % 16)), .int .i64 (256 * (x2 : Int) + (x3 : Int)), .int .i64 (p9 : Int)]), (w.heap.size, 83, zh)] from ⟨HB3.out.be.trans (below_of_only hgr HB3.out.size (fun k hk => by injection hk with hk; omega)), fun x hx => by
            rcases List.mem_cons.1 hx with rfl | hx
            · exact hV2
            · rcases List.mem_cons.1 hx with rfl | hx
              · exact Blk.grown (HB3.out.nth 1 rfl) hgr (by simp)
              · cases hx⟩)
          clear hV2 hgr hsz HB3 HV d0 d1 d2 d3
          have d0 := Blk.cell (HF.out.nth 0 rfl) 0 (v := .int .i64 4) rfl
          have d1 := Blk.cell (HF.out.nth 0 rfl) 1 (v := .int .i64 (4 * ((x : Int) % 16))) rfl
          have d2 := Blk.cell (HF.out.nth 0 rfl) 2 (v := .int .i64 (256 * (x2 : Int) + (x3 : Int))) rfl
          have d3 := Blk.cell (HF.out.nth 0 rfl) 3 (v := .int .i64 (p9 : Int)) rfl
          go_wp2_with (refine wpList_store_blk (g := w.heap.size) (T := 83) (cs' := zh) rfl 83 _ _ rfl rfl rfl (HF.out.nth 1 rfl) (by kernel_rfl) (by kernel_rfl) (by kernel_rfl) (by kernel_rfl) ?_; intro W9 hW9 hg9 hz9)
          have hVE := HF.out.be.trans (below_of_only hg9 HF.out.be.size (fun k hk => by injection hk with hk; omega))
          exact bodyPost_ret (v := .tuple #[.agg zh, .int .i64 12]) (by refine res_row (fn := Try.f43) (p := 2) (q := 3) rfl _ _ w.heap.size 83 _ (0, 0) _ ?_ hW9 Try.underlying83 rfl (by kernel_rfl); rfl) rfl ⟨by first | (rw [HE.out.1, HE.out.2]; rfl), hVE⟩
        · have t4 : decide (4 * ((x : Int) % 16) < 20) = false := by simpa using p1
          by_cases p2 : 256 * (x2 : Int) + x3 < 4 * ((x : Int) % 16)
          · have t5 : decide (256 * (x2 : Int) + x3 < 4 * ((x : Int) % 16)) = true := by simpa using p2
            have HE := Lib.hid (pk_zero (g1.trans (if_pos (Or.inr p2))) (by decide))
            clear g1 g2 p1 p2
            go_enter Try.func43, Try.ntmps43
            go_wp2_with fail
            refine Go.Proofs.Ytfadhgbhdoddpaa.Q.region_ext_tail 10 (by kernel_rfl) (by kernel_rfl) ?_
            simp only [List.take_succ_cons, List.take_zero, List.drop_succ_cons, List.drop_zero]
            repeat (go_big_quiet_step (fail))
            refine wpQuiet_nil ?_
            rintro w9 ⟨pq, rfl⟩
            have HB1 := Lib.hid (HB.out.px pq)
            have d0 := Blk.cell (HB1.out.nth 0 rfl) 0 (v := .int .i64 6) rfl
            have d1 := Blk.cell (HB1.out.nth 0 rfl) 1 (v := .int .i64 40) rfl
            have d2 := Blk.cell (HB1.out.nth 0 rfl) 2 (v := .int .i64 0) rfl
            have d3 := Blk.cell (HB1.out.nth 0 rfl) 3 (v := .int .i64 (p6 : Int)) rfl
            have f2 := Blk.frozen (HB1.out.nth 0 rfl) 2
            have HB2 := Lib.hid (bk_put1 HB1.out (Nat.le_succ _) (by simp) 2 (.int .i64 (40 + 256 * (x4 : Int) + (x5 : Int))))
            go_wp2_with fail
            refine wp_gen (fun V => Bk w V [(w.heap.size + 1, 83, #[.int .i64 6, .int .i64 40, .int .i64 (40 + 256 * (x4 : Int) + (x5 : Int)), .int .i64 (p6 : Int)]), (w.heap.size, 83, zh)]) HB2.out ?_
            intro V HV
            have HV := Lib.hid HV
            clear HB HB1 HB2 d0 d1 d2 d3 f2
            have d0 := Blk.cell (HV.out.nth 0 rfl) 0 (v := .int .i64 6) rfl
            have d1 := Blk.cell (HV.out.nth 0 rfl) 1 (v := .int .i64 40) rfl
            have d2 := Blk.cell (HV.out.nth 0 rfl) 2 (v := .int .i64 (40 + 256 * (x4 : Int) + (x5 : Int))) rfl
            have d3 := Blk.cell (HV.out.nth 0 rfl) 3 (v := .int .i64 (p6 : Int)) rfl
            go_wp2_with fail
            refine Go.Proofs.Ytfadhgbhdoddpaa.Q.region_ext_tail 17 (by kernel_rfl) (by kernel_rfl) ?_
            simp only [List.take_succ_cons, List.take_zero, List.drop_succ_cons, List.drop_zero]
            repeat (go_big_quiet_step (fail))
            refine wpQuiet_nil ?_
            rintro w9 ⟨pq, rfl⟩
            have HB3 := Lib.hid (HV.out.px pq)
            refine wpList_store_blk (g := w.heap.size + 1) (T := 83) (cs' := #[.int .i64 4, .int .i64 (4 * ((x : Int) % 16)), .int .i64 (256 * (x2 : Int) + (x3 : Int)), .int .i64 (p9 : Int)]) rfl 83 _ _ rfl rfl rfl (HB3.out.nth 0 rfl) (by kernel_rfl) (by kernel_rfl) (by kernel_rfl) (by kernel_rfl) ?_
            intro V2 hV2 hgr hsz
            have HF := Lib.hid (show Bk w V2 [(w.heap.size + 1, 83, #[.int .i64 4, .int .i64 (4 * ((x : Int) % 16)), .int .i64 (256 * (x2 : Int) + (x3 : Int)), .int .i64 (p9 : Int)]), (w.heap.size, 83, zh)] from ⟨HB3.out.be.trans (below_of_only hgr HB3.out.size (fun k hk => by injection hk with hk; omega)), fun x hx => by
              rcases List.mem_cons.1 hx with rfl | hx
              · exact hV2
              · rcases List.mem_cons.1 hx with rfl | hx
                · exact Blk.grown (HB3.out.nth 1 rfl) hgr (by simp)
                · cases hx⟩)
            clear hV2 hgr hsz HB3 HV d0 d1 d2 d3
            have d0 := Blk.cell (HF.out.nth 0 rfl) 0 (v := .int .i64 4) rfl
            have d1 := Blk.cell (HF.out.nth 0 rfl) 1 (v := .int .i64 (4 * ((x : Int) % 16))) rfl
            have d2 := Blk.cell (HF.out.nth 0 rfl) 2 (v := .int .i64 (256 * (x2 : Int) + (x3 : Int))) rfl
            have d3 := Blk.cell (HF.out.nth 0 rfl) 3 (v := .int .i64 (p9 : Int)) rfl
            go_wp2_with (refine wpList_store_blk (g := w.heap.size) (T := 83) (cs' := zh) rfl 83 _ _ rfl rfl rfl (HF.out.nth 1 rfl) (by kernel_rfl) (by kernel_rfl) (by kernel_rfl) (by kernel_rfl) ?_; intro W9 hW9 hg9 hz9)
            have hVE := HF.out.be.trans (below_of_only hg9 HF.out.be.size (fun k hk => by injection hk with hk; omega))
            exact bodyPost_ret (v := .tuple #[.agg zh, .int .i64 12]) (by refine res_row (fn := Try.f43) (p := 2) (q := 3) rfl _ _ w.heap.size 83 _ (0, 0) _ ?_ hW9 Try.underlying83 rfl (by kernel_rfl); rfl) rfl ⟨by first | (rw [HE.out.1, HE.out.2]; rfl), hVE⟩
          · have t5 : decide (256 * (x2 : Int) + x3 < 4 * ((x : Int) % 16)) = false := by simpa using p2
            rw [if_neg (by omega)] at g1
            by_cases p3 : 4080 < 256 * (x2 : Int) + x3
            · have t6 : decide (4080 < 256 * (x2 : Int) + x3) = true := by simpa using p3
              have HE := Lib.hid (pk_zero (g1.trans (if_pos p3)) (by decide))
              clear g1 g2 p1 p2 p3
              go_enter Try.func43, Try.ntmps43
              go_wp2_with fail
              refine Go.Proofs.Ytfadhgbhdoddpaa.Q.region_ext_tail 10 (by kernel_rfl) (by kernel_rfl) ?_
              simp only [List.take_succ_cons, List.take_zero, List.drop_succ_cons, List.drop_zero]
              repeat (go_big_quiet_step (fail))
              refine wpQuiet_nil ?_
              rintro w9 ⟨pq, rfl⟩
              have HB1 := Lib.hid (HB.out.px pq)
              have d0 := Blk.cell (HB1.out.nth 0 rfl) 0 (v := .int .i64 6) rfl
              have d1 := Blk.cell (HB1.out.nth 0 rfl) 1 (v := .int .i64 40) rfl
              have d2 := Blk.cell (HB1.out.nth 0 rfl) 2 (v := .int .i64 0) rfl
              have d3 := Blk.cell (HB1.out.nth 0 rfl) 3 (v := .int .i64 (p6 : Int)) rfl
              have f2 := Blk.frozen (HB1.out.nth 0 rfl) 2
              have HB2 := Lib.hid (bk_put1 HB1.out (Nat.le_succ _) (by simp) 2 (.int .i64 (40 + 256 * (x4 : Int) + (x5 : Int))))
              go_wp2_with fail
              refine wp_gen (fun V => Bk w V [(w.heap.size + 1, 83, #[.int .i64 6, .int .i64 40, .int .i64 (40 + 256 * (x4 : Int) + (x5 : Int)), .int .i64 (p6 : Int)]), (w.heap.size, 83, zh)]) HB2.out ?_
              intro V HV
              have HV := Lib.hid HV
              clear HB HB1 HB2 d0 d1 d2 d3 f2
              have d0 := Blk.cell (HV.out.nth 0 rfl) 0 (v := .int .i64 6) rfl
              have d1 := Blk.cell (HV.out.nth 0 rfl) 1 (v := .int .i64 40) rfl
              have d2 := Blk.cell (HV.out.nth 0 rfl) 2 (v := .int .i64 (40 + 256 * (x4 : Int) + (x5 : Int))) rfl
              have d3 := Blk.cell (HV.out.nth 0 rfl) 3 (v := .int .i64 (p6 : Int)) rfl
              go_wp2_with fail
              refine Go.Proofs.Ytfadhgbhdoddpaa.Q.region_ext_tail 17 (by kernel_rfl) (by kernel_rfl) ?_
              simp only [List.take_succ_cons, List.take_zero, List.drop_succ_cons, List.drop_zero]
              repeat (go_big_quiet_step (fail))
              refine wpQuiet_nil ?_
              rintro w9 ⟨pq, rfl⟩
              have HB3 := Lib.hid (HV.out.px pq)
              refine wpList_store_blk (g := w.heap.size + 1) (T := 83) (cs' := #[.int .i64 4, .int .i64 (4 * ((x : Int) % 16)), .int .i64 (256 * (x2 : Int) + (x3 : Int)), .int .i64 (p9 : Int)]) rfl 83 _ _ rfl rfl rfl (HB3.out.nth 0 rfl) (by kernel_rfl) (by kernel_rfl) (by kernel_rfl) (by kernel_rfl) ?_
              intro V2 hV2 hgr hsz
              have HF := Lib.hid (show Bk w V2 [(w.heap.size + 1, 83, #[.int .i64 4, .int .i64 (4 * ((x : Int) % 16)), .int .i64 (256 * (x2 : Int) + (x3 : Int)), .int .i64 (p9 : Int)]), (w.heap.size, 83, zh)] from ⟨HB3.out.be.trans (below_of_only hgr HB3.out.size (fun k hk => by injection hk with hk; omega)), fun x hx => by
                rcases List.mem_cons.1 hx with rfl | hx
                · exact hV2
                · rcases List.mem_cons.1 hx with rfl | hx
                  · exact Blk.grown (HB3.out.nth 1 rfl) hgr (by simp)
                  · cases hx⟩)
              clear hV2 hgr hsz HB3 HV d0 d1 d2 d3
              have d0 := Blk.cell (HF.out.nth 0 rfl) 0 (v := .int .i64 4) rfl
              have d1 := Blk.cell (HF.out.nth 0 rfl) 1 (v := .int .i64 (4 * ((x : Int) % 16))) rfl
              have d2 := Blk.cell (HF.out.nth 0 rfl) 2 (v := .int .i64 (256 * (x2 : Int) + (x3 : Int))) rfl
              have d3 := Blk.cell (HF.out.nth 0 rfl) 3 (v := .int .i64 (p9 : Int)) rfl
              go_wp2_with (refine wpList_store_blk (g := w.heap.size) (T := 83) (cs' := zh) rfl 83 _ _ rfl rfl rfl (HF.out.nth 1 rfl) (by kernel_rfl) (by kernel_rfl) (by kernel_rfl) (by kernel_rfl) ?_; intro W9 hW9 hg9 hz9)
              have hVE := HF.out.be.trans (below_of_only hg9 HF.out.be.size (fun k hk => by injection hk with hk; omega))
              exact bodyPost_ret (v := .tuple #[.agg zh, .int .i64 15]) (by refine res_row (fn := Try.f43) (p := 2) (q := 3) rfl _ _ w.heap.size 83 _ (0, 0) _ ?_ hW9 Try.underlying83 rfl (by kernel_rfl); rfl) rfl ⟨by first | (rw [HE.out.1, HE.out.2]; rfl), hVE⟩
            · have t6 : decide (4080 < 256 * (x2 : Int) + x3) = false := by simpa using p3
              rw [if_neg p3] at g1
              have HE := Lib.hid (And.intro g1 (g2.trans (if_pos g1)))
              clear g1 g2 p1 p2 p3
              go_enter Try.func43, Try.ntmps43
              go_wp2_with fail
              refine Go.Proofs.Ytfadhgbhdoddpaa.Q.region_ext_tail 10 (by kernel_rfl) (by kernel_rfl) ?_
              simp only [List.take_succ_cons, List.take_zero, List.drop_succ_cons, List.drop_zero]
              repeat (go_big_quiet_step (fail))
              refine wpQuiet_nil ?_
              rintro w9 ⟨pq, rfl⟩
              have HB1 := Lib.hid (HB.out.px pq)
              have d0 := Blk.cell (HB1.out.nth 0 rfl) 0 (v := .int .i64 6) rfl
              have d1 := Blk.cell (HB1.out.nth 0 rfl) 1 (v := .int .i64 40) rfl
              have d2 := Blk.cell (HB1.out.nth 0 rfl) 2 (v := .int .i64 0) rfl
              have d3 := Blk.cell (HB1.out.nth 0 rfl) 3 (v := .int .i64 (p6 : Int)) rfl
              have f2 := Blk.frozen (HB1.out.nth 0 rfl) 2
              have HB2 := Lib.hid (bk_put1 HB1.out (Nat.le_succ _) (by simp) 2 (.int .i64 (40 + 256 * (x4 : Int) + (x5 : Int))))
              go_wp2_with fail
              refine wp_gen (fun V => Bk w V [(w.heap.size + 1, 83, #[.int .i64 6, .int .i64 40, .int .i64 (40 + 256 * (x4 : Int) + (x5 : Int)), .int .i64 (p6 : Int)]), (w.heap.size, 83, zh)]) HB2.out ?_
              intro V HV
              have HV := Lib.hid HV
              clear HB HB1 HB2 d0 d1 d2 d3 f2
              have d0 := Blk.cell (HV.out.nth 0 rfl) 0 (v := .int .i64 6) rfl
              have d1 := Blk.cell (HV.out.nth 0 rfl) 1 (v := .int .i64 40) rfl
              have d2 := Blk.cell (HV.out.nth 0 rfl) 2 (v := .int .i64 (40 + 256 * (x4 : Int) + (x5 : Int))) rfl
              have d3 := Blk.cell (HV.out.nth 0 rfl) 3 (v := .int .i64 (p6 : Int)) rfl
              go_wp2_with fail
              refine Go.Proofs.Ytfadhgbhdoddpaa.Q.region_ext_tail 17 (by kernel_rfl) (by kernel_rfl) ?_
              simp only [List.take_succ_cons, List.take_zero, List.drop_succ_cons, List.drop_zero]
              repeat (go_big_quiet_step (fail))
              refine wpQuiet_nil ?_
              rintro w9 ⟨pq, rfl⟩
              have HB3 := Lib.hid (HV.out.px pq)
              refine wpList_store_blk (g := w.heap.size + 1) (T := 83) (cs' := #[.int .i64 4, .int .i64 (4 * ((x : Int) % 16)), .int .i64 (256 * (x2 : Int) + (x3 : Int)), .int .i64 (p9 : Int)]) rfl 83 _ _ rfl rfl rfl (HB3.out.nth 0 rfl) (by kernel_rfl) (by kernel_rfl) (by kernel_rfl) (by kernel_rfl) ?_
              intro V2 hV2 hgr hsz
              have HF := Lib.hid (show Bk w V2 [(w.heap.size + 1, 83, #[.int .i64 4, .int .i64 (4 * ((x : Int) % 16)), .int .i64 (256 * (x2 : Int) + (x3 : Int)), .int .i64 (p9 : Int)]), (w.heap.size, 83, zh)] from ⟨HB3.out.be.trans (below_of_only hgr HB3.out.size (fun k hk => by injection hk with hk; omega)), fun x hx => by
                rcases List.mem_cons.1 hx with rfl | hx
                · exact hV2
                · rcases List.mem_cons.1 hx with rfl | hx
                  · exact Blk.grown (HB3.out.nth 1 rfl) hgr (by simp)
                  · cases hx⟩)
              clear hV2 hgr hsz HB3 HV d0 d1 d2 d3
              have d0 := Blk.cell (HF.out.nth 0 rfl) 0 (v := .int .i64 4) rfl
              have d1 := Blk.cell (HF.out.nth 0 rfl) 1 (v := .int .i64 (4 * ((x : Int) % 16))) rfl
              have d2 := Blk.cell (HF.out.nth 0 rfl) 2 (v := .int .i64 (256 * (x2 : Int) + (x3 : Int))) rfl
              have d3 := Blk.cell (HF.out.nth 0 rfl) 3 (v := .int .i64 (p9 : Int)) rfl
              go_wp2_with (refine wpList_store_blk (g := w.heap.size) (T := 83) (cs' := #[.int .i64 4, .int .i64 (4 * ((x : Int) % 16)), .int .i64 (256 * (x2 : Int) + (x3 : Int)), .int .i64 (p9 : Int)]) rfl 83 _ _ rfl rfl rfl (HF.out.nth 1 rfl) (by kernel_rfl) (by kernel_rfl) (by kernel_rfl) (by kernel_rfl) ?_; intro W9 hW9 hg9 hz9)
              have hVE := HF.out.be.trans (below_of_only hg9 HF.out.be.size (fun k hk => by injection hk with hk; omega))
              exact bodyPost_ret (v := .tuple #[.agg #[.int .i64 4, .int .i64 (4 * ((x : Int) % 16)), .int .i64 (256 * (x2 : Int) + (x3 : Int)), .int .i64 (p9 : Int)], .int .i64 0]) (by refine res_row (fn := Try.f43) (p := 2) (q := 3) rfl _ _ w.heap.size 83 _ (0, 0) _ ?_ hW9 Try.underlying83 rfl (by kernel_rfl); rfl) rfl ⟨by rw [HE.out.1, HE.out.2]; rfl, hVE⟩
    · by_cases v6 : x / 16 = 6
      · obtain ⟨g1, g2⟩ := e6 v6
        have q1 : (x : Int) / 16 = 6 := by omega
        have q2 : (x : Int).tdiv 16 = 6 := by rw [Int.tdiv_eq_ediv_of_nonneg (by omega)]; exact q1
        by_cases hl : s.size < 40
        · have t3 : decide ((s.size : Int) < 40) = true := by simp; omega
          rw [if_pos hl] at g1
          have HE := Lib.hid (pk_zero g1 (by decide))
          clear e4 e6 e0 v4 v6 g1 g2 hl hd4e hd6e hx l0 h0
          go_enter Try.func43, Try.ntmps43
          go_wp2_with (refine wpList_store_blk (g := w.heap.size) (T := 83) (cs' := zh) rfl 83 _ _ rfl rfl rfl (HB0.out.nth 0 rfl) (by kernel_rfl) (by kernel_rfl) (by kernel_rfl) (by kernel_rfl) ?_; intro W9 hW9 hg9 hz9)
          have hVE := HB0.out.be.trans (below_of_only hg9 HB0.out.be.size (fun k hk => by injection hk with hk; omega))
          exact bodyPost_ret (v := .tuple #[.agg zh, .int .i64 10]) (by refine res_row (fn := Try.f43) (p := 2) (q := 3) rfl _ _ w.heap.size 83 _ (0, 0) _ ?_ hW9 Try.underlying83 rfl (by kernel_rfl); rfl) rfl ⟨by first | (rw [HE.out.1, HE.out.2]; rfl), hVE⟩
        · have t3 : decide ((s.size : Int) < 40) = false := by simp; omega
          rw [if_neg hl] at g1
          have i4 : ∀ V : World, (Instr.index 9 (.string s) (.int .i64 4)).run Try.prog V = .ok (.int .u8 (at0 s 4 : Int)) V := fun V => idx_at s 4 (by omega) V
          have l4 := at0_lt s 4
          obtain ⟨x4, hx4⟩ : ∃ x, at0 s 4 = x := ⟨_, rfl⟩
          rw [hx4] at i4 l4
          have z4 : (x4 : Int) ≤ 255 := by omega
          have i5 : ∀ V : World, (Instr.index 9 (.string s) (.int .i64 5)).run Try.prog V = .ok (.int .u8 (at0 s 5 : Int)) V := fun V => idx_at s 5 (by omega) V
          have l5 := at0_lt s 5
          obtain ⟨x5, hx5⟩ : ∃ x, at0 s 5 = x := ⟨_, rfl⟩
          rw [hx5] at i5 l5
          have z5 : (x5 : Int) ≤ 255 := by omega
          have i6 : ∀ V : World, (Instr.index 9 (.string s) (.int .i64 6)).run Try.prog V = .ok (.int .u8 (at0 s 6 : Int)) V := fun V => idx_at s 6 (by omega) V
          have l6 := at0_lt s 6
          obtain ⟨p6, hp6⟩ : ∃ x, at0 s 6 = x := ⟨_, rfl⟩
          rw [hp6] at i6 l6
          have z6 : (p6 : Int) ≤ 255 := by omega
          rw [hx4, hx5, hp6] at hd6e
          rw [hd6e] at g1 g2
          unfold hdE at g1
          dsimp only at g1
          have t5 : decide (40 + 256 * (x4 : Int) + x5 < 40) = false := by simp; omega
          have HB := Lib.hid (bk2 w 83 83 zh #[.int .i64 6, .int .i64 40, .int .i64 0, .int .i64 (p6 : Int)])
          clear e4 e6 e0 v4 v6 hl hd4e hd6e hx hx4 hx5 hp6 l0 l4 l5 l6 h0
          rw [if_neg (by omega)] at g1
          by_cases p3 : 4080 < 40 + (256 * (x4 : Int) + x5)
          · have t6 : decide (4080 < 40 + 256 * (x4 : Int) + x5) = true := by simp; omega
            have HE := Lib.hid (pk_zero (g1.trans (if_pos p3)) (by decide))
            clear g1 g2 p3
            go_enter Try.func43, Try.ntmps43
            go_wp2_with fail
            refine Go.Proofs.Ytfadhgbhdoddpaa.Q.region_ext_tail 10 (by kernel_rfl) (by kernel_rfl) ?_
            simp only [List.take_succ_cons, List.take_zero, List.drop_succ_cons, List.drop_zero]
            repeat (go_big_quiet_step (fail))
            refine wpQuiet_nil ?_
            rintro w9 ⟨pq, rfl⟩
            have HB1 := Lib.hid (HB.out.px pq)
            have d0 := Blk.cell (HB1.out.nth 0 rfl) 0 (v := .int .i64 6) rfl
            have d1 := Blk.cell (HB1.out.nth 0 rfl) 1 (v := .int .i64 40) rfl
            have d2 := Blk.cell (HB1.out.nth 0 rfl) 2 (v := .int .i64 0) rfl
            have d3 := Blk.cell (HB1.out.nth 0 rfl) 3 (v := .int .i64 (p6 : Int)) rfl
            have f2 := Blk.frozen (HB1.out.nth 0 rfl) 2
            have HB2 := Lib.hid (bk_put1 HB1.out (Nat.le_succ _) (by simp) 2 (.int .i64 (40 + 256 * (x4 : Int) + (x5 : Int))))
            go_wp2_with (refine wpList_store_blk (g := w.heap.size) (T := 83) (cs' := zh) rfl 83 _ _ rfl rfl rfl (HB2.out.nth 1 rfl) (by kernel_rfl) (by kernel_rfl) (by kernel_rfl) (by kernel_rfl) ?_; intro W9 hW9 hg9 hz9)
            have hVE := HB2.out.be.trans (below_of_only hg9 HB2.out.be.size (fun k hk => by injection hk with hk; omega))
            exact bodyPost_ret (v := .tuple #[.agg zh, .int .i64 15]) (by refine res_row (fn := Try.f43) (p := 2) (q := 3) rfl _ _ w.heap.size 83 _ (0, 0) _ ?_ hW9 Try.underlying83 rfl (by kernel_rfl); rfl) rfl ⟨by first | (rw [HE.out.1, HE.out.2]; rfl), hVE⟩
          · have t6 : decide (4080 < 40 + 256 * (x4 : Int) + x5) = false := by simp; omega
            rw [if_neg p3] at g1
            have HE := Lib.hid (And.intro g1 (g2.trans (if_pos g1)))
            have HQ := Lib.hid (show 40 + (256 * (x4 : Int) + x5) = 40 + 256 * (x4 : Int) + x5 by omega)
            clear g1 g2 p3
            go_enter Try.func43, Try.ntmps43
            go_wp2_with fail
            refine Go.Proofs.Ytfadhgbhdoddpaa.Q.region_ext_tail 10 (by kernel_rfl) (by kernel_rfl) ?_
            simp only [List.take_succ_cons, List.take_zero, List.drop_succ_cons, List.drop_zero]
            repeat (go_big_quiet_step (fail))
            refine wpQuiet_nil ?_
            rintro w9 ⟨pq, rfl⟩
            have HB1 := Lib.hid (HB.out.px pq)
            have d0 := Blk.cell (HB1.out.nth 0 rfl) 0 (v := .int .i64 6) rfl
            have d1 := Blk.cell (HB1.out.nth 0 rfl) 1 (v := .int .i64 40) rfl
            have d2 := Blk.cell (HB1.out.nth 0 rfl) 2 (v := .int .i64 0) rfl
            have d3 := Blk.cell (HB1.out.nth 0 rfl) 3 (v := .int .i64 (p6 : Int)) rfl
            have f2 := Blk.frozen (HB1.out.nth 0 rfl) 2
            have HB2 := Lib.hid (bk_put1 HB1.out (Nat.le_succ _) (by simp) 2 (.int .i64 (40 + 256 * (x4 : Int) + (x5 : Int))))
            go_wp2_with (refine wpList_store_blk (g := w.heap.size) (T := 83) (cs' := #[.int .i64 6, .int .i64 40, .int .i64 (40 + 256 * (x4 : Int) + (x5 : Int)), .int .i64 (p6 : Int)]) rfl 83 _ _ rfl rfl rfl (HB2.out.nth 1 rfl) (by kernel_rfl) (by kernel_rfl) (by kernel_rfl) (by kernel_rfl) ?_; intro W9 hW9 hg9 hz9)
            have hVE := HB2.out.be.trans (below_of_only hg9 HB2.out.be.size (fun k hk => by injection hk with hk; omega))
            exact bodyPost_ret (v := .tuple #[.agg #[.int .i64 6, .int .i64 40, .int .i64 (40 + 256 * (x4 : Int) + (x5 : Int)), .int .i64 (p6 : Int)], .int .i64 0]) (by refine res_row (fn := Try.f43) (p := 2) (q := 3) rfl _ _ w.heap.size 83 _ (0, 0) _ ?_ hW9 Try.underlying83 rfl (by kernel_rfl); rfl) rfl ⟨by rw [HE.out.1, HE.out.2, HQ.out]; rfl, hVE⟩
      · have HE := Lib.hid (pk_zero (e0 v4 v6) (by decide))
        obtain ⟨v, hv⟩ : ∃ v : Int, (x : Int) / 16 = v := ⟨_, rfl⟩
        have q2 : (x : Int).tdiv 16 = v := by rw [Int.tdiv_eq_ediv_of_nonneg (by omega)]; exact hv
        have t1 : (v != 4) = true := by simp; omega
        have t2 : (v != 6) = true := by simp; omega
        clear e4 e6 e0 v4 v6 hd4e hd6e hx l0 h0
        go_enter Try.func43, Try.ntmps43
        go_wp2_with (refine wpList_store_blk (g := w.heap.size) (T := 83) (cs' := zh) rfl 83 _ _ rfl rfl rfl (HB0.out.nth 0 rfl) (by kernel_rfl) (by kernel_rfl) (by kernel_rfl) (by kernel_rfl) ?_; intro W9 hW9 hg9 hz9)
        have hVE := HB0.out.be.trans (below_of_only hg9 HB0.out.be.size (fun k hk => by injection hk with hk; omega))
        exact bodyPost_ret (v := .tuple #[.agg zh, .int .i64 14]) (by refine res_row (fn := Try.f43) (p := 2) (q := 3) rfl _ _ w.heap.size 83 _ (0, 0) _ ?_ hW9 Try.underlying83 rfl (by kernel_rfl); rfl) rfl ⟨by first | (rw [HE.out.1, HE.out.2]; rfl), hVE⟩
end Go.Proofs.Ytfadhgbhdoddpaa.DgF
