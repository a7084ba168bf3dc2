/- FecApart: the walk. -/
import Derived.Test.YtfadhgbhdoddpaaDoorFcW
namespace Go.Proofs.YtfadhgbhdoddpaaDoor.FcX
open Go Go.RowKit Go.Proofs.YtfadhgbhdoddpaaDoor.Q Go.Proofs.YtfadhgbhdoddpaaDoor.Mem Go.Proofs.YtfadhgbhdoddpaaDoor.Rg Go.Proofs.YtfadhgbhdoddpaaDoor.Ap Go.Proofs.YtfadhgbhdoddpaaDoor.St Go.Proofs.YtfadhgbhdoddpaaDoor.BiP Go.Proofs.YtfadhgbhdoddpaaDoor.SeA Go.Proofs.YtfadhgbhdoddpaaDoor.SeC Go.Proofs.YtfadhgbhdoddpaaDoor.SeE Go.Proofs.YtfadhgbhdoddpaaDoor.SeEq Go.Proofs.YtfadhgbhdoddpaaDoor.SeI Go.Proofs.YtfadhgbhdoddpaaDoor.SeP Go.Proofs.YtfadhgbhdoddpaaDoor.TmA Go.Proofs.YtfadhgbhdoddpaaDoor.TmB Go.Proofs.YtfadhgbhdoddpaaDoor.Tab Go.Proofs.YtfadhgbhdoddpaaDoor.FcA Go.Proofs.YtfadhgbhdoddpaaDoor.FcB Go.Proofs.YtfadhgbhdoddpaaDoor.FcC Go.Proofs.YtfadhgbhdoddpaaDoor.FcD Go.Proofs.YtfadhgbhdoddpaaDoor.FcP Go.Proofs.YtfadhgbhdoddpaaDoor.FcW

set_option maxRecDepth 100000
set_option maxHeartbeats 1600000 in
theorem apart_any (p q : Fp) (w : World) (hT : Tab 0 w) : Calls Tryd.prog 3 #[.agg p.vals, .agg q.vals] w fun e w' => e = .returned (.bool true) ∧ Below w.heap.size w w' := by
  have kaw := fun V (h : Tab 0 V) => awake_any V h
  have HB := Lib.hid (bk2 w 25 25 p.vals q.vals)
  have HT := Lib.hid (hT.be HB.out.be)
  by_cases h1 : 5000 < p.text.size
  · have t1 : decide (5000 < (p.text.size : Int)) = true := by simp; omega
    unfold Fp.vals at *
    have hbe := HB.out.be
    clear h1 hT
    go_enter Tryd.func3, Tryd.ntmps3
    go_wp2_with fail
    (with_reducible refine (kaw _ (HT.out)).mono ?_); rintro e1 W9 ⟨rfl, hb9⟩
    have hE := hbe.trans (hb9.mono hbe.size)
    go_wp2_with fail
    go_ret
    exact ⟨rfl, hE⟩
  · have t1 : decide (5000 < (p.text.size : Int)) = false := by simp; omega
    by_cases h2 : 5000 < q.text.size
    · have t2 : decide (5000 < (q.text.size : Int)) = true := by simp; omega
      unfold Fp.vals at *
      have hbe := HB.out.be
      clear h1 h2 hT
      go_enter Tryd.func3, Tryd.ntmps3
      go_wp2_with fail
      (with_reducible refine (kaw _ (HT.out)).mono ?_); rintro e1 W9 ⟨rfl, hb9⟩
      have hE := hbe.trans (hb9.mono hbe.size)
      go_wp2_with fail
      go_ret
      exact ⟨rfl, hE⟩
    · have t2 : decide (5000 < (q.text.size : Int)) = false := by simp; omega
      have ke := fun V (h : Tab 0 V) => fenc_any p V h
      have kf := fun V (h : Tab 0 V) => fenc_any q V h
      have hinj := fun (h : p.chk = 0) (h' : q.chk = 0) => @enc_inj p q h h'
      have hsz := fun (h : p.chk = 0) => @enc_size p h
      have heq := fun V => eqTP p q V
      obtain ⟨c1, hc1⟩ : ∃ c, p.chk = c := ⟨_, rfl⟩
      obtain ⟨c2, hc2⟩ : ∃ c, q.chk = c := ⟨_, rfl⟩
      obtain ⟨S, hS⟩ : ∃ S, p.enc = S := ⟨_, rfl⟩
      obtain ⟨R, hR⟩ : ∃ R, q.enc = R := ⟨_, rfl⟩
      rw [hc1, hS] at ke
      rw [hc2, hR] at kf
      rw [hc1, hc2, hS, hR] at hinj
      rw [hc1, hS] at hsz
      have hts : p.text.size ≤ 5000 := by omega
      unfold Fp.vals at *
      have HJ := Lib.hid hinj
      have HZ := Lib.hid hsz
      have hz : (p.text.size : Int) ≤ 5000 := by omega
      clear h1 h2 hT hinj hsz hc1 hc2 hS hR hts
      have c0 := Blk.cell (HB.out.nth 1 rfl) 0 (v := .int .i64 p.pad) rfl
      have c1 := Blk.cell (HB.out.nth 1 rfl) 1 (v := .int .i64 p.number) rfl
      have c2 := Blk.cell (HB.out.nth 1 rfl) 2 (v := .int .i64 p.last) rfl
      have c3 := Blk.cell (HB.out.nth 1 rfl) 3 (v := .int .i64 p.times.delta) rfl
      have c4 := Blk.cell (HB.out.nth 1 rfl) 4 (v := .bool p.times.table) rfl
      have c5 := Blk.cell (HB.out.nth 1 rfl) 5 (v := .bool p.times.frame) rfl
      have c6 := Blk.cell (HB.out.nth 1 rfl) 6 (v := .int .i64 p.times.at_) rfl
      have c7 := Blk.cell (HB.out.nth 1 rfl) 7 (v := .string p.text) rfl
      have d0 := Blk.cell (HB.out.nth 0 rfl) 0 (v := .int .i64 q.pad) rfl
      have d1 := Blk.cell (HB.out.nth 0 rfl) 1 (v := .int .i64 q.number) rfl
      have d2 := Blk.cell (HB.out.nth 0 rfl) 2 (v := .int .i64 q.last) rfl
      have d3 := Blk.cell (HB.out.nth 0 rfl) 3 (v := .int .i64 q.times.delta) rfl
      have d4 := Blk.cell (HB.out.nth 0 rfl) 4 (v := .bool q.times.table) rfl
      have d5 := Blk.cell (HB.out.nth 0 rfl) 5 (v := .bool q.times.frame) rfl
      have d6 := Blk.cell (HB.out.nth 0 rfl) 6 (v := .int .i64 q.times.at_) rfl
      have d7 := Blk.cell (HB.out.nth 0 rfl) 7 (v := .string q.text) rfl
      go_enter Tryd.func3, Tryd.ntmps3
      go_wp2_with fail
      (with_reducible refine (ke _ HT.out).mono ?_); rintro e1 W1 ⟨rfl, hb1⟩
      have HB1 := Lib.hid (HB.out.below hb1)
      have HT1 := Lib.hid (HT.out.be hb1)
      clear ke hb1 HB HT c0 c1 c2 c3 c4 c5 c6 c7 d0 d1 d2 d3 d4 d5 d6 d7
      have d0 := Blk.cell (HB1.out.nth 0 rfl) 0 (v := .int .i64 q.pad) rfl
      have d1 := Blk.cell (HB1.out.nth 0 rfl) 1 (v := .int .i64 q.number) rfl
      have d2 := Blk.cell (HB1.out.nth 0 rfl) 2 (v := .int .i64 q.last) rfl
      have d3 := Blk.cell (HB1.out.nth 0 rfl) 3 (v := .int .i64 q.times.delta) rfl
      have d4 := Blk.cell (HB1.out.nth 0 rfl) 4 (v := .bool q.times.table) rfl
      have d5 := Blk.cell (HB1.out.nth 0 rfl) 5 (v := .bool q.times.frame) rfl
      have d6 := Blk.cell (HB1.out.nth 0 rfl) 6 (v := .int .i64 q.times.at_) rfl
      have d7 := Blk.cell (HB1.out.nth 0 rfl) 7 (v := .string q.text) rfl
      go_wp2_with fail
      (with_reducible refine (kf _ HT1.out).mono ?_); rintro e1 W2 ⟨rfl, hb2⟩
      have HB2 := Lib.hid (HB1.out.below hb2)
      have HT2 := Lib.hid (HT1.out.be hb2)
      have hbe := HB2.out.be
      clear kf hb2 HB1 HT1 d0 d1 d2 d3 d4 d5 d6 d7
      by_cases g1 : c1 = 0
      · subst g1
        by_cases g2 : c2 = 0
        · subst g2
          have hse : (S.toList == R.toList) = decide (p = q) := by
            rw [bytes_eq, decide_eq_decide]
            exact HJ.out rfl rfl
          have hsz := HZ.out rfl
          have hS1 : ((S.size : Int) == (p.text.size : Int) + 16) = true := by simp; omega
          obtain ⟨B, hB⟩ : ∃ B, decide (p = q) = B := ⟨_, rfl⟩
          rw [hB] at hse heq
          have c0 := Blk.cell (HB2.out.nth 1 rfl) 0 (v := .int .i64 p.pad) rfl
          have c1 := Blk.cell (HB2.out.nth 1 rfl) 1 (v := .int .i64 p.number) rfl
          have c2 := Blk.cell (HB2.out.nth 1 rfl) 2 (v := .int .i64 p.last) rfl
          have c3 := Blk.cell (HB2.out.nth 1 rfl) 3 (v := .int .i64 p.times.delta) rfl
          have c4 := Blk.cell (HB2.out.nth 1 rfl) 4 (v := .bool p.times.table) rfl
          have c5 := Blk.cell (HB2.out.nth 1 rfl) 5 (v := .bool p.times.frame) rfl
          have c6 := Blk.cell (HB2.out.nth 1 rfl) 6 (v := .int .i64 p.times.at_) rfl
          have c7 := Blk.cell (HB2.out.nth 1 rfl) 7 (v := .string p.text) rfl
          have d0 := Blk.cell (HB2.out.nth 0 rfl) 0 (v := .int .i64 q.pad) rfl
          have d1 := Blk.cell (HB2.out.nth 0 rfl) 1 (v := .int .i64 q.number) rfl
          have d2 := Blk.cell (HB2.out.nth 0 rfl) 2 (v := .int .i64 q.last) rfl
          have d3 := Blk.cell (HB2.out.nth 0 rfl) 3 (v := .int .i64 q.times.delta) rfl
          have d4 := Blk.cell (HB2.out.nth 0 rfl) 4 (v := .bool q.times.table) rfl
          have d5 := Blk.cell (HB2.out.nth 0 rfl) 5 (v := .bool q.times.frame) rfl
          have d6 := Blk.cell (HB2.out.nth 0 rfl) 6 (v := .int .i64 q.times.at_) rfl
          have d7 := Blk.cell (HB2.out.nth 0 rfl) 7 (v := .string q.text) rfl
          clear hB hsz HJ HZ
          cases B
          all_goals
            go_wp2_with fail
            (with_reducible refine (kaw _ (HT2.out)).mono ?_); rintro e1 W9 ⟨rfl, hb9⟩
            have hE := hbe.trans (hb9.mono hbe.size)
            go_wp2_with fail
            go_ret
            exact ⟨rfl, hE⟩
        · have t3 : (c2 != 0) = true := by simpa using g2
          clear g2
          go_wp2_with fail
          (with_reducible refine (kaw _ (HT2.out)).mono ?_); rintro e1 W9 ⟨rfl, hb9⟩
          have hE := hbe.trans (hb9.mono hbe.size)
          go_wp2_with fail
          go_ret
          exact ⟨rfl, hE⟩
      · have t3 : (c1 != 0) = true := by simpa using g1
        clear g1
        go_wp2_with fail
        (with_reducible refine (kaw _ (HT2.out)).mono ?_); rintro e1 W9 ⟨rfl, hb9⟩
        have hE := hbe.trans (hb9.mono hbe.size)
        go_wp2_with fail
        go_ret
        exact ⟨rfl, hE⟩
end Go.Proofs.YtfadhgbhdoddpaaDoor.FcX
