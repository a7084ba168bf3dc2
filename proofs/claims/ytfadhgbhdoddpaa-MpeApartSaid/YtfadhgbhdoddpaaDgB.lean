/- datagram.Peek. -/
import Derived.Test.YtfadhgbhdoddpaaDgA
import Derived.Test.YtfadhgbhdoddpaaSeI
import Derived.Test.YtfadhgbhdoddpaaSeEq
namespace Go.Proofs.Ytfadhgbhdoddpaa.DgB
open Go Go.RowKit Go.Proofs.Ytfadhgbhdoddpaa.Q Go.Proofs.Ytfadhgbhdoddpaa.Mem Go.Proofs.Ytfadhgbhdoddpaa.Rg Go.Proofs.Ytfadhgbhdoddpaa.Ap Go.Proofs.Ytfadhgbhdoddpaa.St Go.Proofs.Ytfadhgbhdoddpaa.BiH Go.Proofs.Ytfadhgbhdoddpaa.SeI Go.Proofs.Ytfadhgbhdoddpaa.SeEq Go.Proofs.Ytfadhgbhdoddpaa.DgP Go.Proofs.Ytfadhgbhdoddpaa.DgA

/-- what a datagram's beginning tells -/
structure Hd where
  ver : Int
  header : Int
  length : Int
  proto : Int
def Hd.vals (h : Hd) : Array Value := #[.int .i64 h.ver, .int .i64 h.header, .int .i64 h.length, .int .i64 h.proto]
def zeroH : Hd := ⟨0, 0, 0, 0⟩
abbrev zh : Array Value := #[.int .i64 0, .int .i64 0, .int .i64 0, .int .i64 0]
def hd4 (s : ByteArray) : Hd := ⟨4, 4 * ((at0 s 0 : Int) % 16), 256 * (at0 s 2 : Int) + at0 s 3, at0 s 9⟩
def hd6 (s : ByteArray) : Hd := ⟨6, 40, 40 + (256 * (at0 s 4 : Int) + at0 s 5), at0 s 6⟩
def hdE (h : Hd) (least : Int) : Int := if h.header < least ∨ h.length < h.header then 12 else if 4080 < h.length then 15 else 0
def pkE (s : ByteArray) : Int :=
  if s.size = 0 then 10 else if at0 s 0 / 16 = 4 then (if s.size < 20 then 10 else hdE (hd4 s) 20) else if at0 s 0 / 16 = 6 then (if s.size < 40 then 10 else hdE (hd6 s) 40) else 14
def pkH (s : ByteArray) : Hd := if pkE s = 0 then (if at0 s 0 / 16 = 4 then hd4 s else hd6 s) else zeroH
theorem pk_zero {s : ByteArray} {c : Int} (h : pkE s = c) (hc : c ≠ 0) : pkE s = c ∧ pkH s = zeroH := ⟨h, by unfold pkH; rw [if_neg (by rw [h]; exact hc)]⟩
theorem or_pair (a b : Nat) (ha : a < 256) (hb : b < 256) : bits .or .i64 ((a : Int) * 256) (b : Int) = 256 * (a : Int) + b := by
  have h := (bits_nat .i64 63 (by decide) (fun n h0 h1 => by rw [IntKind.wrap_i64]; omega) (a * 256) b (by omega) (by omega)).2
  have h2 := Nat.shiftLeft_add_eq_or_of_lt (i := 8) (b := b) (by omega) a
  rw [Nat.shiftLeft_eq] at h2
  rw [show ((a * 256 : Nat) : Int) = (a : Int) * 256 by omega, ← h2] at h
  rw [h]; omega
set_option maxRecDepth 100000
theorem pair_any (s : ByteArray) (i : Nat) (w : World) (h : i + 1 < s.size) (hs : s.size ≤ 1099511627776) : Calls Try.prog 72 #[.string s, .int .i64 (i : Int)] w fun e w' => e = .returned (.int .i64 (256 * (at0 s i : Int) + at0 s (i + 1))) ∧ Below w.heap.size w w' := by
  have i0 := fun V => idx_at s i (by omega) V
  have i1 := fun V => idx_at s (i + 1) h V
  rw [at0_at] at i0 i1
  rw [show ((i + 1 : Nat) : Int) = (i : Int) + 1 by omega] at i1
  have l0 := at0_lt s i
  have l1 := at0_lt s (i + 1)
  have ho := or_pair _ _ l0 l1
  obtain ⟨x, hx⟩ : ∃ x, at0 s i = x := ⟨_, rfl⟩
  obtain ⟨y, hy⟩ : ∃ y, at0 s (i + 1) = y := ⟨_, rfl⟩
  rw [hx] at i0 ho l0 ⊢
  rw [hy] at i1 ho l1 ⊢
  have z0 : (x : Int) ≤ 255 := by omega
  have z1 : (y : Int) ≤ 255 := by omega
  have zi : (i : Int) ≤ 1099511627776 := by omega
  have HO := Lib.hid ho
  clear hx hy l0 l1 h hs
  go_enter Try.func72, Try.ntmps72
  go_wp2_with fail
  refine Go.Proofs.Ytfadhgbhdoddpaa.Q.region_ext (by kernel_rfl) (by kernel_rfl) ?_
  repeat (go_big_quiet_step (fail))
  refine wpQuiet_nil ?_
  rintro w9 ⟨pq, rfl⟩
  have hE := below_ext w pq
  go_wp2_with fail
  go_ret
  exact ⟨rfl, hE⟩
theorem and15 (x : Nat) (h : x < 256) : bits .and .u8 (x : Int) 15 = (x : Int) % 16 := by
  have : ∀ m, m < 256 → bits .and .u8 ((m : Nat) : Int) 15 = (m : Int) % 16 := by decide +kernel
  exact this x h
theorem peek4_any (s : ByteArray) (w : World) (h : 20 ≤ s.size) (hs : s.size ≤ 1099511627776) : Calls Try.prog 63 #[.string s] w fun e w' => e = .returned (.agg (hd4 s).vals) ∧ Below w.heap.size w w' := by
  have i0 : ∀ V : World, (Instr.index 9 (.string s) (.int .i64 0)).run Try.prog V = .ok (.int .u8 (at0 s 0 : Int)) V := fun V => idx_at s 0 (by omega) V
  have i9 : ∀ V : World, (Instr.index 9 (.string s) (.int .i64 9)).run Try.prog V = .ok (.int .u8 (at0 s 9 : Int)) V := fun V => idx_at s 9 (by omega) V
  have kp : ∀ V : World, Calls Try.prog 72 #[.string s, .int .i64 2] V fun e w' => e = .returned (.int .i64 (256 * (at0 s 2 : Int) + at0 s 3)) ∧ Below V.heap.size V w' := fun V => pair_any s 2 V (by omega) hs
  have l0 := at0_lt s 0
  have l9 := at0_lt s 9
  have ha := and15 _ l0
  unfold hd4 Hd.vals
  dsimp only
  obtain ⟨x, hx⟩ : ∃ x, at0 s 0 = x := ⟨_, rfl⟩
  obtain ⟨y, hy⟩ : ∃ y, at0 s 9 = y := ⟨_, rfl⟩
  obtain ⟨N, hN⟩ : ∃ N : Int, 256 * (at0 s 2 : Int) + at0 s 3 = N := ⟨_, rfl⟩
  rw [hx] at i0 ha l0 ⊢
  rw [hy] at i9 l9 ⊢
  rw [hN] at kp ⊢
  have z0 : (x : Int) ≤ 255 := by omega
  have z1 : (y : Int) ≤ 255 := by omega
  have HB := Lib.hid (bk1 w 88 zh)
  clear hx hy hN l0 l9 h hs
  go_enter Try.func63, Try.ntmps63
  go_wp2_with fail
  refine Go.Proofs.Ytfadhgbhdoddpaa.Q.region_ext_tail 11 (by kernel_rfl) (by kernel_rfl) ?_
  simp only [List.take_succ_cons, List.take_zero, List.drop_succ_cons, List.drop_zero]
  repeat (go_big_quiet_step ((go_at_call 72; exact ext_call (kp _))))
  refine wpQuiet_nil ?_
  rintro w9 ⟨pq, rfl⟩
  have HB1 := Lib.hid (HB.out.px pq)
  refine wpList_store_blk (g := w.heap.size) (T := 88) (cs' := #[.int .i64 4, .int .i64 (4 * ((x : Int) % 16)), .int .i64 N, .int .i64 (y : Int)]) rfl 88 _ _ rfl rfl rfl (HB1.out.nth 0 rfl) (by kernel_rfl) (by kernel_rfl) (by kernel_rfl) (by kernel_rfl) ?_
  intro W9 hW9 hg9 hz9
  have hVE := HB1.out.be.trans (below_of_only hg9 HB1.out.be.size (fun k hk => by injection hk with hk; omega))
  go_wp2_with fail
  exact bodyPost_ret (v := .agg #[.int .i64 4, .int .i64 (4 * ((x : Int) % 16)), .int .i64 N, .int .i64 (y : Int)]) (results_cell_row rfl _ _ w.heap.size 88 _ (0, 0) _ rfl hW9 Try.underlying88 rfl (by kernel_rfl)) rfl ⟨by rfl, hVE⟩
theorem peek6_any (s : ByteArray) (w : World) (h : 40 ≤ s.size) (hs : s.size ≤ 1099511627776) : Calls Try.prog 64 #[.string s] w fun e w' => e = .returned (.agg (hd6 s).vals) ∧ Below w.heap.size w w' := by
  have i9 : ∀ V : World, (Instr.index 9 (.string s) (.int .i64 6)).run Try.prog V = .ok (.int .u8 (at0 s 6 : Int)) V := fun V => idx_at s 6 (by omega) V
  have kp : ∀ V : World, Calls Try.prog 72 #[.string s, .int .i64 4] V fun e w' => e = .returned (.int .i64 (256 * (at0 s 4 : Int) + at0 s 5)) ∧ Below V.heap.size V w' := fun V => pair_any s 4 V (by omega) hs
  have l9 := at0_lt s 6
  have l4 := at0_lt s 4
  have l5 := at0_lt s 5
  unfold hd6 Hd.vals
  dsimp only
  obtain ⟨y, hy⟩ : ∃ y, at0 s 6 = y := ⟨_, rfl⟩
  have n0 : 0 ≤ 256 * (at0 s 4 : Int) + at0 s 5 := by omega
  have n1 : 256 * (at0 s 4 : Int) + at0 s 5 ≤ 65535 := by omega
  obtain ⟨N, hN⟩ : ∃ N : Int, 256 * (at0 s 4 : Int) + at0 s 5 = N := ⟨_, rfl⟩
  rw [hy] at i9 l9 ⊢
  rw [hN] at kp n0 n1 ⊢
  have z1 : (y : Int) ≤ 255 := by omega
  have HB := Lib.hid (bk1 w 88 zh)
  clear hy hN l4 l5 l9 h hs
  go_enter Try.func64, Try.ntmps64
  go_wp2_with fail
  refine Go.Proofs.Ytfadhgbhdoddpaa.Q.region_ext_tail 7 (by kernel_rfl) (by kernel_rfl) ?_
  simp only [List.take_succ_cons, List.take_zero, List.drop_succ_cons, List.drop_zero]
  repeat (go_big_quiet_step ((go_at_call 72; exact ext_call (kp _))))
  refine wpQuiet_nil ?_
  rintro w9 ⟨pq, rfl⟩
  have HB1 := Lib.hid (HB.out.px pq)
  refine wpList_store_blk (g := w.heap.size) (T := 88) (cs' := #[.int .i64 6, .int .i64 40, .int .i64 (40 + N), .int .i64 (y : Int)]) rfl 88 _ _ rfl rfl rfl (HB1.out.nth 0 rfl) (by kernel_rfl) (by kernel_rfl) (by kernel_rfl) (by kernel_rfl) ?_
  intro W9 hW9 hg9 hz9
  have hVE := HB1.out.be.trans (below_of_only hg9 HB1.out.be.size (fun k hk => by injection hk with hk; omega))
  go_wp2_with fail
  exact bodyPost_ret (v := .agg #[.int .i64 6, .int .i64 40, .int .i64 (40 + N), .int .i64 (y : Int)]) (results_cell_row rfl _ _ w.heap.size 88 _ (0, 0) _ rfl hW9 Try.underlying88 rfl (by kernel_rfl)) rfl ⟨by rfl, hVE⟩
set_option maxHeartbeats 800000 in
theorem peek_any (s : ByteArray) (w : World) (hs : s.size ≤ 1099511627776) : Calls Try.prog 46 #[.string s] w fun e w' => e = .returned (.tuple #[.agg (pkH s).vals, .int .i64 (pkE s)]) ∧ Below w.heap.size w w' := by
  have HB := Lib.hid (bk1 w 88 zh)
  by_cases h0 : s.size = 0
  · have ht : s = nob := by
      apply bl_inj
      rw [show bl nob = [] from rfl]
      exact List.eq_nil_of_length_eq_zero (by rw [bl_len]; exact h0)
    have HE := Lib.hid (pk_zero (s := s) (c := 10) (by unfold pkE; rw [if_pos h0]) (by decide))
    subst ht
    clear h0 hs
    go_enter Try.func46, Try.ntmps46
    go_wp2_with (refine wpList_store_blk (g := w.heap.size) (T := 88) (cs' := zh) rfl 88 _ _ rfl rfl rfl (HB.out.nth 0 rfl) (by kernel_rfl) (by kernel_rfl) (by kernel_rfl) (by kernel_rfl) ?_; intro W9 hW9 hg9 hz9)
    have hVE := HB.out.be.trans (below_of_only hg9 HB.out.be.size (fun k hk => by injection hk with hk; omega))
    exact bodyPost_ret (v := .tuple #[.agg zh, .int .i64 10]) (by refine res_row (fn := Try.f46) (p := 2) (q := 3) rfl _ _ w.heap.size 88 _ (0, 0) _ ?_ hW9 Try.underlying88 rfl (by kernel_rfl); rfl) rfl ⟨by first | (rw [HE.out.1, HE.out.2]; rfl), hVE⟩
  · have hn2 : s.toList.isEmpty = false := by rw [isEmpty_iff]; simpa using h0
    have hn : (s.toList == (nob : ByteArray).toList) = false := by
      rw [bytes_eq]
      have : s ≠ nob := by rintro rfl; exact h0 rfl
      simp [this]
    have i0 : ∀ V : World, (Instr.index 9 (.string s) (.int .i64 0)).run Try.prog V = .ok (.int .u8 (at0 s 0 : Int)) V := fun V => idx_at s 0 (by omega) V
    have k4 := fun (h : 20 ≤ s.size) V => peek4_any s V h hs
    have k6 := fun (h : 40 ≤ s.size) V => peek6_any s V h hs
    have l0 := at0_lt s 0
    have e4 : at0 s 0 / 16 = 4 → pkE s = (if s.size < 20 then 10 else hdE (hd4 s) 20) ∧ pkH s = if pkE s = 0 then hd4 s else zeroH := fun e => ⟨by unfold pkE; rw [if_neg h0, if_pos e], by unfold pkH; rw [if_pos e]⟩
    have e6 : at0 s 0 / 16 = 6 → pkE s = (if s.size < 40 then 10 else hdE (hd6 s) 40) ∧ pkH s = if pkE s = 0 then hd6 s else zeroH := fun e => ⟨by unfold pkE; rw [if_neg h0, if_neg (by omega), if_pos e], by unfold pkH; rw [if_neg (show ¬ at0 s 0 / 16 = 4 by omega)]⟩
    have e0 : at0 s 0 / 16 ≠ 4 → at0 s 0 / 16 ≠ 6 → pkE s = 14 := fun a b => by unfold pkE; rw [if_neg h0, if_neg a, if_neg b]
    obtain ⟨x, hx⟩ : ∃ x, at0 s 0 = x := ⟨_, rfl⟩
    rw [hx] at i0 l0 e4 e6 e0
    have z0 : (x : Int) ≤ 255 := by omega
    clear h0 hx
    by_cases v4 : x / 16 = 4
    · obtain ⟨g1, g2⟩ := e4 v4
      have t1 : ((x : Int) / 16 == 4) = true := by simp; omega
      by_cases hl : s.size < 20
      · have t2 : decide ((s.size : Int) < 20) = true := by simp; omega
        rw [if_pos hl] at g1
        have HE := Lib.hid (pk_zero g1 (by decide))
        clear e4 e6 e0 v4 g1 g2 k4 k6 hl
        go_enter Try.func46, Try.ntmps46
        go_wp2_with (refine wpList_store_blk (g := w.heap.size) (T := 88) (cs' := zh) rfl 88 _ _ rfl rfl rfl (HB.out.nth 0 rfl) (by kernel_rfl) (by kernel_rfl) (by kernel_rfl) (by kernel_rfl) ?_; intro W9 hW9 hg9 hz9)
        have hVE := HB.out.be.trans (below_of_only hg9 HB.out.be.size (fun k hk => by injection hk with hk; omega))
        exact bodyPost_ret (v := .tuple #[.agg zh, .int .i64 10]) (by refine res_row (fn := Try.f46) (p := 2) (q := 3) rfl _ _ w.heap.size 88 _ (0, 0) _ ?_ hW9 Try.underlying88 rfl (by kernel_rfl); rfl) rfl ⟨by first | (rw [HE.out.1, HE.out.2]; rfl), hVE⟩
      · have t2 : decide ((s.size : Int) < 20) = false := by simp; omega
        rw [if_neg hl] at g1
        replace k4 := k4 (by omega)
        clear e4 e6 e0 v4 k6 hl
        obtain ⟨H, hH⟩ : ∃ H, hd4 s = H := ⟨_, rfl⟩
        rw [hH] at k4 g1 g2
        clear hH
        obtain ⟨ve, he, le, pr⟩ := H
        unfold Hd.vals at k4
        unfold hdE at g1
        dsimp only at *
        by_cases p1 : he < 20
        · have t3 : decide (he < 20) = true := by simpa using p1
          have HE := Lib.hid (pk_zero (g1.trans (if_pos (Or.inl p1))) (by decide))
          clear g1 g2 p1
          go_enter Try.func46, Try.ntmps46
          go_wp2_with fail
          (with_reducible refine (k4 _).mono ?_); rintro e1 W1 ⟨rfl, hb1⟩
          have HB1 := Lib.hid ((HB.out.below hb1).new 88 #[.int .i64 ve, .int .i64 he, .int .i64 le, .int .i64 pr])
          clear k4 HB hb1
          go_wp2_with (refine wpList_store_blk (g := w.heap.size) (T := 88) (cs' := zh) rfl 88 _ _ rfl rfl rfl (HB1.out.nth 1 rfl) (by kernel_rfl) (by kernel_rfl) (by kernel_rfl) (by kernel_rfl) ?_; intro W9 hW9 hg9 hz9)
          have hVE := HB1.out.be.trans (below_of_only hg9 HB1.out.be.size (fun k hk => by injection hk with hk; omega))
          exact bodyPost_ret (v := .tuple #[.agg zh, .int .i64 12]) (by refine res_row (fn := Try.f46) (p := 2) (q := 3) rfl _ _ w.heap.size 88 _ (0, 0) _ ?_ hW9 Try.underlying88 rfl (by kernel_rfl); rfl) rfl ⟨by first | (rw [HE.out.1, HE.out.2]; rfl), hVE⟩
        · have t3 : decide (he < 20) = false := by simpa using p1
          by_cases p2 : le < he
          · have t4 : decide (le < he) = true := by simpa using p2
            have HE := Lib.hid (pk_zero (g1.trans (if_pos (Or.inr p2))) (by decide))
            clear g1 g2 p1 p2
            go_enter Try.func46, Try.ntmps46
            go_wp2_with fail
            (with_reducible refine (k4 _).mono ?_); rintro e1 W1 ⟨rfl, hb1⟩
            have HB1 := Lib.hid ((HB.out.below hb1).new 88 #[.int .i64 ve, .int .i64 he, .int .i64 le, .int .i64 pr])
            clear k4 HB hb1
            go_wp2_with (refine wpList_store_blk (g := w.heap.size) (T := 88) (cs' := zh) rfl 88 _ _ rfl rfl rfl (HB1.out.nth 1 rfl) (by kernel_rfl) (by kernel_rfl) (by kernel_rfl) (by kernel_rfl) ?_; intro W9 hW9 hg9 hz9)
            have hVE := HB1.out.be.trans (below_of_only hg9 HB1.out.be.size (fun k hk => by injection hk with hk; omega))
            exact bodyPost_ret (v := .tuple #[.agg zh, .int .i64 12]) (by refine res_row (fn := Try.f46) (p := 2) (q := 3) rfl _ _ w.heap.size 88 _ (0, 0) _ ?_ hW9 Try.underlying88 rfl (by kernel_rfl); rfl) rfl ⟨by first | (rw [HE.out.1, HE.out.2]; rfl), hVE⟩
          · have t4 : decide (le < he) = false := by simpa using p2
            rw [if_neg (by omega)] at g1
            by_cases p3 : 4080 < le
            · have t5 : decide (4080 < le) = true := by simpa using p3
              have HE := Lib.hid (pk_zero (g1.trans (if_pos p3)) (by decide))
              clear g1 g2 p1 p2 p3
              go_enter Try.func46, Try.ntmps46
              go_wp2_with fail
              (with_reducible refine (k4 _).mono ?_); rintro e1 W1 ⟨rfl, hb1⟩
              have HB1 := Lib.hid ((HB.out.below hb1).new 88 #[.int .i64 ve, .int .i64 he, .int .i64 le, .int .i64 pr])
              clear k4 HB hb1
              go_wp2_with (refine wpList_store_blk (g := w.heap.size) (T := 88) (cs' := zh) rfl 88 _ _ rfl rfl rfl (HB1.out.nth 1 rfl) (by kernel_rfl) (by kernel_rfl) (by kernel_rfl) (by kernel_rfl) ?_; intro W9 hW9 hg9 hz9)
              have hVE := HB1.out.be.trans (below_of_only hg9 HB1.out.be.size (fun k hk => by injection hk with hk; omega))
              exact bodyPost_ret (v := .tuple #[.agg zh, .int .i64 15]) (by refine res_row (fn := Try.f46) (p := 2) (q := 3) rfl _ _ w.heap.size 88 _ (0, 0) _ ?_ hW9 Try.underlying88 rfl (by kernel_rfl); rfl) rfl ⟨by first | (rw [HE.out.1, HE.out.2]; rfl), hVE⟩
            · have t5 : decide (4080 < le) = false := by simpa using p3
              rw [if_neg p3] at g1
              have HE := Lib.hid (And.intro g1 (g2.trans (if_pos g1)))
              clear g1 g2 p1 p2 p3
              go_enter Try.func46, Try.ntmps46
              go_wp2_with fail
              (with_reducible refine (k4 _).mono ?_); rintro e1 W1 ⟨rfl, hb1⟩
              have HB1 := Lib.hid ((HB.out.below hb1).new 88 #[.int .i64 ve, .int .i64 he, .int .i64 le, .int .i64 pr])
              clear k4 HB hb1
              go_wp2_with (refine wpList_store_blk (g := w.heap.size) (T := 88) (cs' := #[.int .i64 ve, .int .i64 he, .int .i64 le, .int .i64 pr]) rfl 88 _ _ rfl rfl rfl (HB1.out.nth 1 rfl) (by kernel_rfl) (by kernel_rfl) (by kernel_rfl) (by kernel_rfl) ?_; intro W9 hW9 hg9 hz9)
              have hVE := HB1.out.be.trans (below_of_only hg9 HB1.out.be.size (fun k hk => by injection hk with hk; omega))
              exact bodyPost_ret (v := .tuple #[.agg #[.int .i64 ve, .int .i64 he, .int .i64 le, .int .i64 pr], .int .i64 0]) (by refine res_row (fn := Try.f46) (p := 2) (q := 3) rfl _ _ w.heap.size 88 _ (0, 0) _ ?_ hW9 Try.underlying88 rfl (by kernel_rfl); rfl) rfl ⟨by rw [HE.out.1, HE.out.2]; rfl, hVE⟩
    · by_cases v6 : x / 16 = 6
      · obtain ⟨g1, g2⟩ := e6 v6
        have t0 : ((x : Int) / 16 == 4) = false := by simp; omega
        have t1 : ((x : Int) / 16 == 6) = true := by simp; omega
        by_cases hl : s.size < 40
        · have t2 : decide ((s.size : Int) < 40) = true := by simp; omega
          rw [if_pos hl] at g1
          have HE := Lib.hid (pk_zero g1 (by decide))
          clear e4 e6 e0 v4 v6 g1 g2 k4 k6 hl
          go_enter Try.func46, Try.ntmps46
          go_wp2_with (refine wpList_store_blk (g := w.heap.size) (T := 88) (cs' := zh) rfl 88 _ _ rfl rfl rfl (HB.out.nth 0 rfl) (by kernel_rfl) (by kernel_rfl) (by kernel_rfl) (by kernel_rfl) ?_; intro W9 hW9 hg9 hz9)
          have hVE := HB.out.be.trans (below_of_only hg9 HB.out.be.size (fun k hk => by injection hk with hk; omega))
          exact bodyPost_ret (v := .tuple #[.agg zh, .int .i64 10]) (by refine res_row (fn := Try.f46) (p := 2) (q := 3) rfl _ _ w.heap.size 88 _ (0, 0) _ ?_ hW9 Try.underlying88 rfl (by kernel_rfl); rfl) rfl ⟨by first | (rw [HE.out.1, HE.out.2]; rfl), hVE⟩
        · have t2 : decide ((s.size : Int) < 40) = false := by simp; omega
          rw [if_neg hl] at g1
          replace k6 := k6 (by omega)
          clear e4 e6 e0 v4 v6 k4 hl
          obtain ⟨H, hH⟩ : ∃ H, hd6 s = H := ⟨_, rfl⟩
          rw [hH] at k6 g1 g2
          clear hH
          obtain ⟨ve, he, le, pr⟩ := H
          unfold Hd.vals at k6
          unfold hdE at g1
          dsimp only at *
          by_cases p1 : he < 40
          · have t3 : decide (he < 40) = true := by simpa using p1
            have HE := Lib.hid (pk_zero (g1.trans (if_pos (Or.inl p1))) (by decide))
            clear g1 g2 p1
            go_enter Try.func46, Try.ntmps46
            go_wp2_with fail
            (with_reducible refine (k6 _).mono ?_); rintro e1 W1 ⟨rfl, hb1⟩
            have HB1 := Lib.hid ((HB.out.below hb1).new 88 #[.int .i64 ve, .int .i64 he, .int .i64 le, .int .i64 pr])
            clear k6 HB hb1
            go_wp2_with (refine wpList_store_blk (g := w.heap.size) (T := 88) (cs' := zh) rfl 88 _ _ rfl rfl rfl (HB1.out.nth 1 rfl) (by kernel_rfl) (by kernel_rfl) (by kernel_rfl) (by kernel_rfl) ?_; intro W9 hW9 hg9 hz9)
            have hVE := HB1.out.be.trans (below_of_only hg9 HB1.out.be.size (fun k hk => by injection hk with hk; omega))
            exact bodyPost_ret (v := .tuple #[.agg zh, .int .i64 12]) (by refine res_row (fn := Try.f46) (p := 2) (q := 3) rfl _ _ w.heap.size 88 _ (0, 0) _ ?_ hW9 Try.underlying88 rfl (by kernel_rfl); rfl) rfl ⟨by first | (rw [HE.out.1, HE.out.2]; rfl), hVE⟩
          · have t3 : decide (he < 40) = false := by simpa using p1
            by_cases p2 : le < he
            · have t4 : decide (le < he) = true := by simpa using p2
              have HE := Lib.hid (pk_zero (g1.trans (if_pos (Or.inr p2))) (by decide))
              clear g1 g2 p1 p2
              go_enter Try.func46, Try.ntmps46
              go_wp2_with fail
              (with_reducible refine (k6 _).mono ?_); rintro e1 W1 ⟨rfl, hb1⟩
              have HB1 := Lib.hid ((HB.out.below hb1).new 88 #[.int .i64 ve, .int .i64 he, .int .i64 le, .int .i64 pr])
              clear k6 HB hb1
              go_wp2_with (refine wpList_store_blk (g := w.heap.size) (T := 88) (cs' := zh) rfl 88 _ _ rfl rfl rfl (HB1.out.nth 1 rfl) (by kernel_rfl) (by kernel_rfl) (by kernel_rfl) (by kernel_rfl) ?_; intro W9 hW9 hg9 hz9)
              have hVE := HB1.out.be.trans (below_of_only hg9 HB1.out.be.size (fun k hk => by injection hk with hk; omega))
              exact bodyPost_ret (v := .tuple #[.agg zh, .int .i64 12]) (by refine res_row (fn := Try.f46) (p := 2) (q := 3) rfl _ _ w.heap.size 88 _ (0, 0) _ ?_ hW9 Try.underlying88 rfl (by kernel_rfl); rfl) rfl ⟨by first | (rw [HE.out.1, HE.out.2]; rfl), hVE⟩
            · have t4 : decide (le < he) = false := by simpa using p2
              rw [if_neg (by omega)] at g1
              by_cases p3 : 4080 < le
              · have t5 : decide (4080 < le) = true := by simpa using p3
                have HE := Lib.hid (pk_zero (g1.trans (if_pos p3)) (by decide))
                clear g1 g2 p1 p2 p3
                go_enter Try.func46, Try.ntmps46
                go_wp2_with fail
                (with_reducible refine (k6 _).mono ?_); rintro e1 W1 ⟨rfl, hb1⟩
                have HB1 := Lib.hid ((HB.out.below hb1).new 88 #[.int .i64 ve, .int .i64 he, .int .i64 le, .int .i64 pr])
                clear k6 HB hb1
                go_wp2_with (refine wpList_store_blk (g := w.heap.size) (T := 88) (cs' := zh) rfl 88 _ _ rfl rfl rfl (HB1.out.nth 1 rfl) (by kernel_rfl) (by kernel_rfl) (by kernel_rfl) (by kernel_rfl) ?_; intro W9 hW9 hg9 hz9)
                have hVE := HB1.out.be.trans (below_of_only hg9 HB1.out.be.size (fun k hk => by injection hk with hk; omega))
                exact bodyPost_ret (v := .tuple #[.agg zh, .int .i64 15]) (by refine res_row (fn := Try.f46) (p := 2) (q := 3) rfl _ _ w.heap.size 88 _ (0, 0) _ ?_ hW9 Try.underlying88 rfl (by kernel_rfl); rfl) rfl ⟨by first | (rw [HE.out.1, HE.out.2]; rfl), hVE⟩
              · have t5 : decide (4080 < le) = false := by simpa using p3
                rw [if_neg p3] at g1
                have HE := Lib.hid (And.intro g1 (g2.trans (if_pos g1)))
                clear g1 g2 p1 p2 p3
                go_enter Try.func46, Try.ntmps46
                go_wp2_with fail
                (with_reducible refine (k6 _).mono ?_); rintro e1 W1 ⟨rfl, hb1⟩
                have HB1 := Lib.hid ((HB.out.below hb1).new 88 #[.int .i64 ve, .int .i64 he, .int .i64 le, .int .i64 pr])
                clear k6 HB hb1
                go_wp2_with (refine wpList_store_blk (g := w.heap.size) (T := 88) (cs' := #[.int .i64 ve, .int .i64 he, .int .i64 le, .int .i64 pr]) rfl 88 _ _ rfl rfl rfl (HB1.out.nth 1 rfl) (by kernel_rfl) (by kernel_rfl) (by kernel_rfl) (by kernel_rfl) ?_; intro W9 hW9 hg9 hz9)
                have hVE := HB1.out.be.trans (below_of_only hg9 HB1.out.be.size (fun k hk => by injection hk with hk; omega))
                exact bodyPost_ret (v := .tuple #[.agg #[.int .i64 ve, .int .i64 he, .int .i64 le, .int .i64 pr], .int .i64 0]) (by refine res_row (fn := Try.f46) (p := 2) (q := 3) rfl _ _ w.heap.size 88 _ (0, 0) _ ?_ hW9 Try.underlying88 rfl (by kernel_rfl); rfl) rfl ⟨by rw [HE.out.1, HE.out.2]; rfl, hVE⟩
      · have t0 : ((x : Int) / 16 == 4) = false := by simp; omega
        have t1 : ((x : Int) / 16 == 6) = false := by simp; omega
        have HE := Lib.hid (pk_zero (e0 v4 v6) (by decide))
        clear e4 e6 e0 v4 v6 k4 k6
        go_enter Try.func46, Try.ntmps46
        go_wp2_with (refine wpList_store_blk (g := w.heap.size) (T := 88) (cs' := zh) rfl 88 _ _ rfl rfl rfl (HB.out.nth 0 rfl) (by kernel_rfl) (by kernel_rfl) (by kernel_rfl) (by kernel_rfl) ?_; intro W9 hW9 hg9 hz9)
        have hVE := HB.out.be.trans (below_of_only hg9 HB.out.be.size (fun k hk => by injection hk with hk; omega))
        exact bodyPost_ret (v := .tuple #[.agg zh, .int .i64 14]) (by refine res_row (fn := Try.f46) (p := 2) (q := 3) rfl _ _ w.heap.size 88 _ (0, 0) _ ?_ hW9 Try.underlying88 rfl (by kernel_rfl); rfl) rfl ⟨by first | (rw [HE.out.1, HE.out.2]; rfl), hVE⟩
end Go.Proofs.Ytfadhgbhdoddpaa.DgB
