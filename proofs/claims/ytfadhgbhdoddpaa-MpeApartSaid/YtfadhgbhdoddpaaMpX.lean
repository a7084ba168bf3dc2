/- MpeApart: the walk. -/
import Derived.Test.YtfadhgbhdoddpaaMpW
namespace Go.Proofs.Ytfadhgbhdoddpaa.MpX
open Go Go.RowKit Go.Proofs.Ytfadhgbhdoddpaa.Q Go.Proofs.Ytfadhgbhdoddpaa.Mem Go.Proofs.Ytfadhgbhdoddpaa.Rg Go.Proofs.Ytfadhgbhdoddpaa.Ap Go.Proofs.Ytfadhgbhdoddpaa.St Go.Proofs.Ytfadhgbhdoddpaa.BiP Go.Proofs.Ytfadhgbhdoddpaa.SeA Go.Proofs.Ytfadhgbhdoddpaa.SeC Go.Proofs.Ytfadhgbhdoddpaa.SeE Go.Proofs.Ytfadhgbhdoddpaa.SeEq Go.Proofs.Ytfadhgbhdoddpaa.SeI Go.Proofs.Ytfadhgbhdoddpaa.SeP Go.Proofs.Ytfadhgbhdoddpaa.TmA Go.Proofs.Ytfadhgbhdoddpaa.TmB Go.Proofs.Ytfadhgbhdoddpaa.MpA Go.Proofs.Ytfadhgbhdoddpaa.MpC Go.Proofs.Ytfadhgbhdoddpaa.MpD Go.Proofs.Ytfadhgbhdoddpaa.MpP Go.Proofs.Ytfadhgbhdoddpaa.MpW

set_option maxRecDepth 100000
set_option maxHeartbeats 1600000 in
theorem apart_any (p q : Mp) (w : World) : Calls Try.prog 3 #[.agg p.vals, .agg q.vals] w fun e w' => e = .returned (.bool true) ∧ Below w.heap.size w w' := by
  have kaw := fun V => awake_any V
  have HB := Lib.hid (bk2 w 25 25 p.vals q.vals)
  by_cases h1 : 5000 < p.text.size
  · have t1 : decide (5000 < (p.text.size : Int)) = true := by simp; omega
    unfold Mp.vals at *
    have hbe := HB.out.be
    clear h1
    go_enter Try.func3, Try.ntmps3
    go_wp2_with fail
    (with_reducible refine (kaw _).mono ?_); rintro e1 W9 ⟨rfl, hb9⟩
    have hE := hbe.trans (hb9.mono hbe.size)
    go_wp2_with fail
    go_ret
    exact ⟨rfl, hE⟩
  · have t1 : decide (5000 < (p.text.size : Int)) = false := by simp; omega
    by_cases h2 : 5000 < q.text.size
    · have t2 : decide (5000 < (q.text.size : Int)) = true := by simp; omega
      unfold Mp.vals at *
      have hbe := HB.out.be
      clear h1 h2
      go_enter Try.func3, Try.ntmps3
      go_wp2_with fail
      (with_reducible refine (kaw _).mono ?_); rintro e1 W9 ⟨rfl, hb9⟩
      have hE := hbe.trans (hb9.mono hbe.size)
      go_wp2_with fail
      go_ret
      exact ⟨rfl, hE⟩
    · have t2 : decide (5000 < (q.text.size : Int)) = false := by simp; omega
      have ke := fun V => menc_any p V (by omega)
      have kf := fun V => menc_any q V (by omega)
      have hinj := fun (h : p.chk = 0) (h' : q.chk = 0) => @enc_inj p q h h'
      have hsz := fun (h : p.chk = 0) => @enc_size p h
      have heq := fun V => eqTP p q V
      obtain ⟨c1, hc1⟩ : ∃ c, p.chk = c := ⟨_, rfl⟩
      obtain ⟨c2, hc2⟩ : ∃ c, q.chk = c := ⟨_, rfl⟩
      obtain ⟨S, hS⟩ : ∃ S, p.enc = S := ⟨_, rfl⟩
      obtain ⟨R, hR⟩ : ∃ R, q.enc = R := ⟨_, rfl⟩
      rw [hc1, hS] at ke
      rw [hc2, hR] at kf
      rw [hc1, hc2, hS, hR] at hinj
      rw [hc1, hS] at hsz
      have hts : p.text.size ≤ 5000 := by omega
      unfold Mp.vals at *
      have HJ := Lib.hid hinj
      have HZ := Lib.hid hsz
      have hz : (p.text.size : Int) ≤ 5000 := by omega
      clear h1 h2 hinj hsz hc1 hc2 hS hR hts
      have c0 := Blk.cell (HB.out.nth 1 rfl) 0 (v := .int .i64 p.mac) rfl
      have c1 := Blk.cell (HB.out.nth 1 rfl) 1 (v := .int .i64 p.times.delta) rfl
      have c2 := Blk.cell (HB.out.nth 1 rfl) 2 (v := .bool p.times.table) rfl
      have c3 := Blk.cell (HB.out.nth 1 rfl) 3 (v := .bool p.times.frame) rfl
      have c4 := Blk.cell (HB.out.nth 1 rfl) 4 (v := .int .i64 p.times.at_) rfl
      have c5 := Blk.cell (HB.out.nth 1 rfl) 5 (v := .string p.text) rfl
      have d0 := Blk.cell (HB.out.nth 0 rfl) 0 (v := .int .i64 q.mac) rfl
      have d1 := Blk.cell (HB.out.nth 0 rfl) 1 (v := .int .i64 q.times.delta) rfl
      have d2 := Blk.cell (HB.out.nth 0 rfl) 2 (v := .bool q.times.table) rfl
      have d3 := Blk.cell (HB.out.nth 0 rfl) 3 (v := .bool q.times.frame) rfl
      have d4 := Blk.cell (HB.out.nth 0 rfl) 4 (v := .int .i64 q.times.at_) rfl
      have d5 := Blk.cell (HB.out.nth 0 rfl) 5 (v := .string q.text) rfl
      go_enter Try.func3, Try.ntmps3
      go_wp2_with fail
      (with_reducible refine (ke _).mono ?_); rintro e1 W1 ⟨rfl, hb1⟩
      have HB1 := Lib.hid (HB.out.below hb1)
      clear ke hb1 HB c0 c1 c2 c3 c4 c5 d0 d1 d2 d3 d4 d5
      have d0 := Blk.cell (HB1.out.nth 0 rfl) 0 (v := .int .i64 q.mac) rfl
      have d1 := Blk.cell (HB1.out.nth 0 rfl) 1 (v := .int .i64 q.times.delta) rfl
      have d2 := Blk.cell (HB1.out.nth 0 rfl) 2 (v := .bool q.times.table) rfl
      have d3 := Blk.cell (HB1.out.nth 0 rfl) 3 (v := .bool q.times.frame) rfl
      have d4 := Blk.cell (HB1.out.nth 0 rfl) 4 (v := .int .i64 q.times.at_) rfl
      have d5 := Blk.cell (HB1.out.nth 0 rfl) 5 (v := .string q.text) rfl
      go_wp2_with fail
      (with_reducible refine (kf _).mono ?_); rintro e1 W2 ⟨rfl, hb2⟩
      have HB2 := Lib.hid (HB1.out.below hb2)
      have hbe := HB2.out.be
      clear kf hb2 HB1 d0 d1 d2 d3 d4 d5
      by_cases g1 : c1 = 0
      · subst g1
        by_cases g2 : c2 = 0
        · subst g2
          have hse : (S.toList == R.toList) = decide (p = q) := by
            rw [bytes_eq, decide_eq_decide]
            exact HJ.out rfl rfl
          obtain ⟨B, hB⟩ : ∃ B, decide (p = q) = B := ⟨_, rfl⟩
          rw [hB] at hse heq
          have c0 := Blk.cell (HB2.out.nth 1 rfl) 0 (v := .int .i64 p.mac) rfl
          have c1 := Blk.cell (HB2.out.nth 1 rfl) 1 (v := .int .i64 p.times.delta) rfl
          have c2 := Blk.cell (HB2.out.nth 1 rfl) 2 (v := .bool p.times.table) rfl
          have c3 := Blk.cell (HB2.out.nth 1 rfl) 3 (v := .bool p.times.frame) rfl
          have c4 := Blk.cell (HB2.out.nth 1 rfl) 4 (v := .int .i64 p.times.at_) rfl
          have c5 := Blk.cell (HB2.out.nth 1 rfl) 5 (v := .string p.text) rfl
          have d0 := Blk.cell (HB2.out.nth 0 rfl) 0 (v := .int .i64 q.mac) rfl
          have d1 := Blk.cell (HB2.out.nth 0 rfl) 1 (v := .int .i64 q.times.delta) rfl
          have d2 := Blk.cell (HB2.out.nth 0 rfl) 2 (v := .bool q.times.table) rfl
          have d3 := Blk.cell (HB2.out.nth 0 rfl) 3 (v := .bool q.times.frame) rfl
          have d4 := Blk.cell (HB2.out.nth 0 rfl) 4 (v := .int .i64 q.times.at_) rfl
          have d5 := Blk.cell (HB2.out.nth 0 rfl) 5 (v := .string q.text) rfl
          clear hB HJ HZ
          cases B
          all_goals
            go_wp2_with fail
            (with_reducible refine (kaw _).mono ?_); rintro e1 W9 ⟨rfl, hb9⟩
            have hE := hbe.trans (hb9.mono hbe.size)
            go_wp2_with fail
            go_ret
            exact ⟨rfl, hE⟩
        · have t3 : (c2 != 0) = true := by simpa using g2
          clear g2
          go_wp2_with fail
          (with_reducible refine (kaw _).mono ?_); rintro e1 W9 ⟨rfl, hb9⟩
          have hE := hbe.trans (hb9.mono hbe.size)
          go_wp2_with fail
          go_ret
          exact ⟨rfl, hE⟩
      · have t3 : (c1 != 0) = true := by simpa using g1
        clear g1
        go_wp2_with fail
        (with_reducible refine (kaw _).mono ?_); rintro e1 W9 ⟨rfl, hb9⟩
        have hE := hbe.trans (hb9.mono hbe.size)
        go_wp2_with fail
        go_ret
        exact ⟨rfl, hE⟩
end Go.Proofs.Ytfadhgbhdoddpaa.MpX
