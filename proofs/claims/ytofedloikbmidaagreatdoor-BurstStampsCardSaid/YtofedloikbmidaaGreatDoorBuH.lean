/- The law BurstStamps. -/
import Derived.Test.YtofedloikbmidaaGreatDoorBuG
namespace Go.Proofs.YtofedloikbmidaaGreatDoor.BuH
open Go Go.RowKit Go.Proofs.YtofedloikbmidaaGreatDoor.Q Go.Proofs.YtofedloikbmidaaGreatDoor.Mem Go.Proofs.YtofedloikbmidaaGreatDoor.Rg Go.Proofs.YtofedloikbmidaaGreatDoor.Ap Go.Proofs.YtofedloikbmidaaGreatDoor.St Go.Proofs.YtofedloikbmidaaGreatDoor.Tab Go.Proofs.YtofedloikbmidaaGreatDoor.TmA Go.Proofs.YtofedloikbmidaaGreatDoor.BuA Go.Proofs.YtofedloikbmidaaGreatDoor.BuB Go.Proofs.YtofedloikbmidaaGreatDoor.BuF Go.Proofs.YtofedloikbmidaaGreatDoor.BuG

set_option maxRecDepth 100000
set_option maxHeartbeats 3200000 in
theorem stamps_any (t : ByteArray) (d : Int) (w : World) (hT : Tab 3 w) (hF : Tab 0 w) : Calls Tryz.prog 4 #[.string t, .int .i64 d] w fun e w' => e = .returned (.bool true) ∧ Below w.heap.size w w' := by
  have HT := Lib.hid (And.intro hT hF)
  clear hT hF
  by_cases hs : 5000 < t.size
  · have t1 : decide ((5000 : Int) < (t.size : Int)) = true := decide_eq_true (by omega)
    have t1' : decide (5000 < t.size) = true := decide_eq_true hs
    have HBE := Lib.hid (Below.refl w.heap.size w)
    clear hs
    go_enter Tryz.func4, Tryz.ntmps4
    have HTA := Lib.hid (awake_any w (HT.out.1.be HBE.out) (HT.out.2.be HBE.out))
    go_wp2_with fail
    (with_reducible refine (HTA.out).mono ?_); rintro e1 W9 ⟨rfl, hb9⟩
    have hE := HBE.out.trans (hb9.mono HBE.out.size)
    go_wp2_with fail
    go_ret
    exact ⟨rfl, hE⟩
  · have t1 : decide ((5000 : Int) < (t.size : Int)) = false := decide_eq_false (by omega)
    have t1' : decide (5000 < t.size) = false := decide_eq_false hs
    have kt := fun V h => times_any t V h (by omega)
    have kr := fun V => rtimes_any t V (by omega)
    have ks := fun V h => stamp_any t d V h (by omega)
    have heq := fun V => eqTT (tmT t) (tmT t) V
    rw [show decide (tmT t = tmT t) = true from decide_eq_true rfl] at heq
    by_cases hE : tmE t = 0
    · rw [hE] at kt kr
      by_cases hd : 0 ≤ d ∧ d ≤ 4095
      · obtain ⟨o1, o2, o3, o4, o5, o6⟩ := stamp_ok hE hd
        have kt2 := fun V h => times_any (stS t d) V h (by rw [o6]; omega)
        have ks2 := fun V h => stamp_any (stS t d) (tmT t).delta V h (by rw [o6]; omega)
        have heq2 := fun V => eqTT (tmX t d) (tmX t d) V
        rw [show decide (tmX t d = tmX t d) = true from decide_eq_true rfl] at heq2
        rw [o2, o3] at kt2
        rw [o4, o5] at ks2
        rw [o1] at ks
        have hx : tmX t d = ⟨d, (tmT t).table, (tmT t).frame, (tmT t).at_⟩ := rfl
        rw [hx] at kt2 heq2
        obtain ⟨S, hS⟩ : ∃ s, stS t d = s := ⟨_, rfl⟩
        rw [hS] at ks ks2 kt2 o6
        obtain ⟨Q, hQ⟩ : ∃ q, tmT t = q := ⟨_, rfl⟩
        rw [hQ] at kt kr ks2 kt2 heq heq2
        have t2 : ((S.size : Int) == (t.size : Int)) = true := beq_iff_eq.2 (by omega)
        have t2' : (S.size == t.size) = true := beq_iff_eq.2 o6
        have t3 : (t.toList == t.toList) = true := beq_self_eq_true _
        have t4 : decide (d < 0) = false := decide_eq_false (by omega)
        have t5 : decide ((4095 : Int) < d) = false := decide_eq_false (by omega)
        clear o1 o2 o3 o4 o5 o6 hx hS hQ hE hd hs
        obtain ⟨de, ta, fr, at_⟩ := Q
        unfold Ti.vals at kt kr kt2 heq heq2
        dsimp only at kt kr kt2 heq heq2 ks2
        go_enter Tryz.func4, Tryz.ntmps4
        go_wp2_with fail
        (with_reducible refine (kt _ HT.out.1).mono ?_); rintro e1 W1 ⟨rfl, hb1⟩
        have HB1 := Lib.hid (((bk_nil w).below hb1).new 42 #[.int .i64 de, .bool ta, .bool fr, .int .i64 at_])
        clear hb1
        go_wp2_with fail
        (with_reducible refine (kr _).mono ?_); rintro e1 W2 ⟨rfl, hb2⟩
        have hl12 : W1.heap.size < W2.heap.size := (HB1.out.below hb2).lt 0 rfl
        have HB2 := Lib.hid ((HB1.out.below hb2).new 42 #[.int .i64 de, .bool ta, .bool fr, .int .i64 at_])
        have hw2' : w.heap.size ≤ W2.heap.size := (HB1.out.below hb2).be.size
        clear hb2 HB1
        go_wp2_with fail
        (with_reducible refine (ks _ (HT.out.1.be HB2.out.be)).mono ?_); rintro e1 W3 ⟨rfl, hb3⟩
        have HB3 := Lib.hid (HB2.out.below hb3)
        clear hb3 HB2
        have x0 := Blk.cell (HB3.out.nth 0 rfl) 0 (v := .int .i64 de) rfl
        have x1 := Blk.cell (HB3.out.nth 0 rfl) 1 (v := .bool ta) rfl
        have x2 := Blk.cell (HB3.out.nth 0 rfl) 2 (v := .bool fr) rfl
        have x3 := Blk.cell (HB3.out.nth 0 rfl) 3 (v := .int .i64 at_) rfl
        have y0 := Blk.cell (HB3.out.nth 1 rfl) 0 (v := .int .i64 de) rfl
        have y1 := Blk.cell (HB3.out.nth 1 rfl) 1 (v := .bool ta) rfl
        have y2 := Blk.cell (HB3.out.nth 1 rfl) 2 (v := .bool fr) rfl
        have y3 := Blk.cell (HB3.out.nth 1 rfl) 3 (v := .int .i64 at_) rfl
        go_wp2_with fail
        (with_reducible refine (kt2 _ (HT.out.1.be HB3.out.be)).mono ?_); rintro e1 W4 ⟨rfl, hb4⟩
        have HB4 := Lib.hid ((HB3.out.below hb4).new 42 #[.int .i64 d, .bool ta, .bool fr, .int .i64 at_])
        have hl24 : W2.heap.size < W4.heap.size := (HB3.out.below hb4).lt 0 rfl
        have hw2 : w.heap.size ≤ W2.heap.size := hw2'
        have HB34 := Lib.hid (HB3.out.below hb4)
        have HS0 : Bk w (W4.setCell ⟨W2.heap.size, 0, none⟩ (.int .i64 d)) [(W2.heap.size, 42, #[.int .i64 d, .bool ta, .bool fr, .int .i64 at_]), (W1.heap.size, 42, #[.int .i64 de, .bool ta, .bool fr, .int .i64 at_])] :=
          ⟨HB34.out.be.setCell (p := ⟨W2.heap.size, 0, none⟩) hw2 _, fun x hx => by
            rcases List.mem_cons.1 hx with rfl | hx
            · exact Blk.set_ (HB34.out.nth 0 rfl) 0 _
            · rcases List.mem_cons.1 hx with rfl | hx
              · exact Blk.far (HB34.out.nth 1 rfl) (by simp; omega) _
              · cases hx⟩
        have HS := Lib.hid (HS0.newAt W4.heap.size 42 #[.int .i64 d, .bool ta, .bool fr, .int .i64 at_] (by simp [World.setCell]))
        clear HS0
        have g0 := Blk.cell (HB34.out.nth 0 rfl) 0 (v := .int .i64 de) rfl
        have f0 := Blk.frozen (HB34.out.nth 0 rfl) 0
        have g1 := Blk.cell (HB4.out.nth 1 rfl) 0 (v := .int .i64 de) rfl
        have f1 := Blk.frozen (HB4.out.nth 1 rfl) 0
        have u0 := Blk.cell (HS.out.nth 2 rfl) 0 (v := .int .i64 de) rfl
        clear x0 x1 x2 x3 y0 y1 y2 y3 hb4 HB3 HB4 HB34
        go_wp2_with fail
        (with_reducible refine (ks2 _ (HT.out.1.be HS.out.be)).mono ?_); rintro e1 W5 ⟨rfl, hb5⟩
        have HB5 := Lib.hid (HS.out.below hb5)
        have x0 := Blk.cell (HB5.out.nth 0 rfl) 0 (v := .int .i64 d) rfl
        have x1 := Blk.cell (HB5.out.nth 0 rfl) 1 (v := .bool ta) rfl
        have x2 := Blk.cell (HB5.out.nth 0 rfl) 2 (v := .bool fr) rfl
        have x3 := Blk.cell (HB5.out.nth 0 rfl) 3 (v := .int .i64 at_) rfl
        have y0 := Blk.cell (HB5.out.nth 1 rfl) 0 (v := .int .i64 d) rfl
        have y1 := Blk.cell (HB5.out.nth 1 rfl) 1 (v := .bool ta) rfl
        have y2 := Blk.cell (HB5.out.nth 1 rfl) 2 (v := .bool fr) rfl
        have y3 := Blk.cell (HB5.out.nth 1 rfl) 3 (v := .int .i64 at_) rfl
        have HBE := Lib.hid HB5.out.be
        clear hb5 HS g0 f0 u0 g1 f1
        have HTA := Lib.hid (awake_any W5 (HT.out.1.be HBE.out) (HT.out.2.be HBE.out))
        go_wp2_with fail
        (with_reducible refine (HTA.out).mono ?_); rintro e1 W9 ⟨rfl, hb9⟩
        have hE := HBE.out.trans (hb9.mono HBE.out.size)
        go_wp2_with fail
        go_ret
        exact ⟨rfl, hE⟩
      · obtain ⟨o1, o2⟩ := stamp_bad hE hd
        rw [o1, o2] at ks
        obtain ⟨Q, hQ⟩ : ∃ q, tmT t = q := ⟨_, rfl⟩
        rw [hQ] at kt kr heq
        clear o1 o2 hQ hE hs
        obtain ⟨de, ta, fr, at_⟩ := Q
        unfold Ti.vals at kt kr heq
        dsimp only at kt kr heq
        by_cases h0 : d < 0
        · have t4 : decide (d < 0) = true := decide_eq_true h0
          clear hd h0
          go_enter Tryz.func4, Tryz.ntmps4
          go_wp2_with fail
          (with_reducible refine (kt _ HT.out.1).mono ?_); rintro e1 W1 ⟨rfl, hb1⟩
          have HB1 := Lib.hid (((bk_nil w).below hb1).new 42 #[.int .i64 de, .bool ta, .bool fr, .int .i64 at_])
          clear hb1
          go_wp2_with fail
          (with_reducible refine (kr _).mono ?_); rintro e1 W2 ⟨rfl, hb2⟩
          have hl12 : W1.heap.size < W2.heap.size := (HB1.out.below hb2).lt 0 rfl
          have HB2 := Lib.hid ((HB1.out.below hb2).new 42 #[.int .i64 de, .bool ta, .bool fr, .int .i64 at_])
          have hw2' : w.heap.size ≤ W2.heap.size := (HB1.out.below hb2).be.size
          clear hb2 HB1
          go_wp2_with fail
          (with_reducible refine (ks _ (HT.out.1.be HB2.out.be)).mono ?_); rintro e1 W3 ⟨rfl, hb3⟩
          have HB3 := Lib.hid (HB2.out.below hb3)
          clear hb3 HB2
          have x0 := Blk.cell (HB3.out.nth 0 rfl) 0 (v := .int .i64 de) rfl
          have x1 := Blk.cell (HB3.out.nth 0 rfl) 1 (v := .bool ta) rfl
          have x2 := Blk.cell (HB3.out.nth 0 rfl) 2 (v := .bool fr) rfl
          have x3 := Blk.cell (HB3.out.nth 0 rfl) 3 (v := .int .i64 at_) rfl
          have y0 := Blk.cell (HB3.out.nth 1 rfl) 0 (v := .int .i64 de) rfl
          have y1 := Blk.cell (HB3.out.nth 1 rfl) 1 (v := .bool ta) rfl
          have y2 := Blk.cell (HB3.out.nth 1 rfl) 2 (v := .bool fr) rfl
          have y3 := Blk.cell (HB3.out.nth 1 rfl) 3 (v := .int .i64 at_) rfl
          have HBE := Lib.hid HB3.out.be
          have HTA := Lib.hid (awake_any W3 (HT.out.1.be HBE.out) (HT.out.2.be HBE.out))
          go_wp2_with fail
          (with_reducible refine (HTA.out).mono ?_); rintro e1 W9 ⟨rfl, hb9⟩
          have hE := HBE.out.trans (hb9.mono HBE.out.size)
          go_wp2_with fail
          go_ret
          exact ⟨rfl, hE⟩
        · have t4 : decide (d < 0) = false := decide_eq_false h0
          have t5 : decide ((4095 : Int) < d) = true := decide_eq_true (by omega)
          clear hd h0
          go_enter Tryz.func4, Tryz.ntmps4
          go_wp2_with fail
          (with_reducible refine (kt _ HT.out.1).mono ?_); rintro e1 W1 ⟨rfl, hb1⟩
          have HB1 := Lib.hid (((bk_nil w).below hb1).new 42 #[.int .i64 de, .bool ta, .bool fr, .int .i64 at_])
          clear hb1
          go_wp2_with fail
          (with_reducible refine (kr _).mono ?_); rintro e1 W2 ⟨rfl, hb2⟩
          have hl12 : W1.heap.size < W2.heap.size := (HB1.out.below hb2).lt 0 rfl
          have HB2 := Lib.hid ((HB1.out.below hb2).new 42 #[.int .i64 de, .bool ta, .bool fr, .int .i64 at_])
          have hw2' : w.heap.size ≤ W2.heap.size := (HB1.out.below hb2).be.size
          clear hb2 HB1
          go_wp2_with fail
          (with_reducible refine (ks _ (HT.out.1.be HB2.out.be)).mono ?_); rintro e1 W3 ⟨rfl, hb3⟩
          have HB3 := Lib.hid (HB2.out.below hb3)
          clear hb3 HB2
          have x0 := Blk.cell (HB3.out.nth 0 rfl) 0 (v := .int .i64 de) rfl
          have x1 := Blk.cell (HB3.out.nth 0 rfl) 1 (v := .bool ta) rfl
          have x2 := Blk.cell (HB3.out.nth 0 rfl) 2 (v := .bool fr) rfl
          have x3 := Blk.cell (HB3.out.nth 0 rfl) 3 (v := .int .i64 at_) rfl
          have y0 := Blk.cell (HB3.out.nth 1 rfl) 0 (v := .int .i64 de) rfl
          have y1 := Blk.cell (HB3.out.nth 1 rfl) 1 (v := .bool ta) rfl
          have y2 := Blk.cell (HB3.out.nth 1 rfl) 2 (v := .bool fr) rfl
          have y3 := Blk.cell (HB3.out.nth 1 rfl) 3 (v := .int .i64 at_) rfl
          have HBE := Lib.hid HB3.out.be
          have HTA := Lib.hid (awake_any W3 (HT.out.1.be HBE.out) (HT.out.2.be HBE.out))
          go_wp2_with fail
          (with_reducible refine (HTA.out).mono ?_); rintro e1 W9 ⟨rfl, hb9⟩
          have hE := HBE.out.trans (hb9.mono HBE.out.size)
          go_wp2_with fail
          go_ret
          exact ⟨rfl, hE⟩
    · obtain ⟨o1, o2⟩ := stamp_err (d := d) hE
      rw [o1, o2] at ks
      obtain ⟨Q, hQ⟩ : ∃ q, tmT t = q := ⟨_, rfl⟩
      rw [hQ] at kt kr heq
      have t2 : (tmE t != 0) = true := by simpa using hE
      obtain ⟨E, hEe⟩ : ∃ q, tmE t = q := ⟨_, rfl⟩
      rw [hEe] at kt kr ks t2
      clear o1 o2 hQ hE hEe hs
      obtain ⟨de, ta, fr, at_⟩ := Q
      unfold Ti.vals at kt kr heq
      dsimp only at kt kr heq
      go_enter Tryz.func4, Tryz.ntmps4
      go_wp2_with fail
      (with_reducible refine (kt _ HT.out.1).mono ?_); rintro e1 W1 ⟨rfl, hb1⟩
      have HB1 := Lib.hid (((bk_nil w).below hb1).new 42 #[.int .i64 de, .bool ta, .bool fr, .int .i64 at_])
      clear hb1
      go_wp2_with fail
      (with_reducible refine (kr _).mono ?_); rintro e1 W2 ⟨rfl, hb2⟩
      have hl12 : W1.heap.size < W2.heap.size := (HB1.out.below hb2).lt 0 rfl
      have HB2 := Lib.hid ((HB1.out.below hb2).new 42 #[.int .i64 de, .bool ta, .bool fr, .int .i64 at_])
      have hw2' : w.heap.size ≤ W2.heap.size := (HB1.out.below hb2).be.size
      clear hb2 HB1
      go_wp2_with fail
      (with_reducible refine (ks _ (HT.out.1.be HB2.out.be)).mono ?_); rintro e1 W3 ⟨rfl, hb3⟩
      have HB3 := Lib.hid (HB2.out.below hb3)
      clear hb3 HB2
      have x0 := Blk.cell (HB3.out.nth 0 rfl) 0 (v := .int .i64 de) rfl
      have x1 := Blk.cell (HB3.out.nth 0 rfl) 1 (v := .bool ta) rfl
      have x2 := Blk.cell (HB3.out.nth 0 rfl) 2 (v := .bool fr) rfl
      have x3 := Blk.cell (HB3.out.nth 0 rfl) 3 (v := .int .i64 at_) rfl
      have y0 := Blk.cell (HB3.out.nth 1 rfl) 0 (v := .int .i64 de) rfl
      have y1 := Blk.cell (HB3.out.nth 1 rfl) 1 (v := .bool ta) rfl
      have y2 := Blk.cell (HB3.out.nth 1 rfl) 2 (v := .bool fr) rfl
      have y3 := Blk.cell (HB3.out.nth 1 rfl) 3 (v := .int .i64 at_) rfl
      have HBE := Lib.hid HB3.out.be
      have HTA := Lib.hid (awake_any W3 (HT.out.1.be HBE.out) (HT.out.2.be HBE.out))
      go_wp2_with fail
      (with_reducible refine (HTA.out).mono ?_); rintro e1 W9 ⟨rfl, hb9⟩
      have hE := HBE.out.trans (hb9.mono HBE.out.size)
      go_wp2_with fail
      go_ret
      exact ⟨rfl, hE⟩
end Go.Proofs.YtofedloikbmidaaGreatDoor.BuH
