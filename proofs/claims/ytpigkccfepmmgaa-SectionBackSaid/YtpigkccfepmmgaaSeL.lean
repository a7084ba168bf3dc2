/- SectionReads, SectionOne: the walks. -/
import Derived.Test.YtpigkccfepmmgaaSeK
import Derived.Test.YtpigkccfepmmgaaSeP
import Derived.Test.YtpigkccfepmmgaaSeB
namespace Go.Proofs.Ytpigkccfepmmgaa.SeL
open Go Go.RowKit Go.Proofs.Ytpigkccfepmmgaa.Q Go.Proofs.Ytpigkccfepmmgaa.Mem Go.Proofs.Ytpigkccfepmmgaa.Rg Go.Proofs.Ytpigkccfepmmgaa.Ap Go.Proofs.Ytpigkccfepmmgaa.St Go.Proofs.Ytpigkccfepmmgaa.SeA Go.Proofs.Ytpigkccfepmmgaa.SeB Go.Proofs.Ytpigkccfepmmgaa.SeC Go.Proofs.Ytpigkccfepmmgaa.SeE Go.Proofs.Ytpigkccfepmmgaa.SeG Go.Proofs.Ytpigkccfepmmgaa.SeEq Go.Proofs.Ytpigkccfepmmgaa.SeI Go.Proofs.Ytpigkccfepmmgaa.SeI2 Go.Proofs.Ytpigkccfepmmgaa.SeJ Go.Proofs.Ytpigkccfepmmgaa.SeK Go.Proofs.Ytpigkccfepmmgaa.SeP
set_option maxRecDepth 100000
set_option maxHeartbeats 1600000 in
theorem reads_any (x : ByteArray) (w : World) : Calls Try.prog 6 #[.string x] w fun e w' => e = .returned (.bool true) ∧ Below w.heap.size w w' := by
  have kaw := fun V => awake_any V
  by_cases h1 : 1000 < x.size
  · have t1 : decide (1000 < (x.size : Int)) = true := by simp; omega
    clear h1
    go_enter Try.func6, Try.ntmps6
    go_wp2_with fail
    (with_reducible refine (kaw _).mono ?_); rintro e1 W1 ⟨rfl, hb1⟩
    go_wp2_with fail
    go_ret
    exact ⟨rfl, hb1⟩
  have t1 : decide (1000 < (x.size : Int)) = false := by simp; omega
  have hs : x.size ≤ 1099511627776 := by omega
  have kn := fun V => need_any x V hs
  have kr := fun V => rneed_any x V
  have kd := fun V => decode_any x V hs
  have ke := fun V => rdecode_any x V hs
  have kp := fun V => plain_any (decS x) V
  have hq := fun V => eqTR (decS x) (decS x) V
  obtain ⟨N, hN⟩ : ∃ N, (needN x : Int) = N := ⟨_, rfl⟩
  obtain ⟨E, hE⟩ : ∃ E, needE x = E := ⟨_, rfl⟩
  obtain ⟨D, hD⟩ : ∃ D, decE x = D := ⟨_, rfl⟩
  obtain ⟨s, hS⟩ : ∃ s, decS x = s := ⟨_, rfl⟩
  rw [hN, hE] at kn kr
  rw [hS, hD] at kd ke
  rw [hS] at kp hq
  clear hN hE hD hS h1 hs
  obtain ⟨t, p, e, v, n, m, l, b⟩ := s
  unfold Sc.vals at *
  dsimp only at *
  rw [decide_eq_true rfl] at hq
  go_enter Try.func6, Try.ntmps6
  go_wp2_with fail
  (with_reducible refine (kn _).mono ?_); rintro e1 W1 ⟨rfl, hb1⟩
  have HB1 := Lib.hid hb1
  clear hb1
  go_wp2_with fail
  (with_reducible refine (kr _).mono ?_); rintro e1 W2 ⟨rfl, hb2⟩
  have HB2 := Lib.hid (HB1.out.trans (hb2.mono HB1.out.size))
  clear hb2 HB1
  go_wp2_with fail
  (with_reducible refine (kd _).mono ?_); rintro e1 W3 ⟨rfl, hb3⟩
  have HB3 := Lib.hid (show Bk w W3 [] from ⟨HB2.out.trans (hb3.mono HB2.out.size), fun _ h => by cases h⟩)
  have HB4 := Lib.hid (HB3.out.new 23 #[.int .i64 t, .bool p, .int .i64 e, .int .i64 v, .bool n, .int .i64 m, .int .i64 l, .string b])
  clear hb3 HB2 HB3
  go_wp2_with fail
  (with_reducible refine (ke _).mono ?_); rintro e1 W4 ⟨rfl, hb4⟩
  have HB5 := Lib.hid (HB4.out.below hb4)
  have HB6 := Lib.hid (HB5.out.new 28 #[.int .i64 t, .bool p, .int .i64 e, .int .i64 v, .bool n, .int .i64 m, .int .i64 l, .string b])
  have c0 := fun pX => Blk.cell (blk_ext (HB6.out.nth 1 rfl) pX) 0 (v := .int .i64 t) rfl
  have c1 := fun pX => Blk.cell (blk_ext (HB6.out.nth 1 rfl) pX) 1 (v := .bool p) rfl
  have c2 := fun pX => Blk.cell (blk_ext (HB6.out.nth 1 rfl) pX) 2 (v := .int .i64 e) rfl
  have c3 := fun pX => Blk.cell (blk_ext (HB6.out.nth 1 rfl) pX) 3 (v := .int .i64 v) rfl
  have c4 := fun pX => Blk.cell (blk_ext (HB6.out.nth 1 rfl) pX) 4 (v := .bool n) rfl
  have c5 := fun pX => Blk.cell (blk_ext (HB6.out.nth 1 rfl) pX) 5 (v := .int .i64 m) rfl
  have c6 := fun pX => Blk.cell (blk_ext (HB6.out.nth 1 rfl) pX) 6 (v := .int .i64 l) rfl
  have c7 := fun pX => Blk.cell (blk_ext (HB6.out.nth 1 rfl) pX) 7 (v := .string b) rfl
  have d0 := fun pX => Blk.cell (blk_ext (HB6.out.nth 0 rfl) pX) 0 (v := .int .i64 t) rfl
  have d1 := fun pX => Blk.cell (blk_ext (HB6.out.nth 0 rfl) pX) 1 (v := .bool p) rfl
  have d2 := fun pX => Blk.cell (blk_ext (HB6.out.nth 0 rfl) pX) 2 (v := .int .i64 e) rfl
  have d3 := fun pX => Blk.cell (blk_ext (HB6.out.nth 0 rfl) pX) 3 (v := .int .i64 v) rfl
  have d4 := fun pX => Blk.cell (blk_ext (HB6.out.nth 0 rfl) pX) 4 (v := .bool n) rfl
  have d5 := fun pX => Blk.cell (blk_ext (HB6.out.nth 0 rfl) pX) 5 (v := .int .i64 m) rfl
  have d6 := fun pX => Blk.cell (blk_ext (HB6.out.nth 0 rfl) pX) 6 (v := .int .i64 l) rfl
  have d7 := fun pX => Blk.cell (blk_ext (HB6.out.nth 0 rfl) pX) 7 (v := .string b) rfl
  clear hb4 HB4 HB5 kn kr kd ke
  go_wp2_with fail
  refine Go.Proofs.Ytpigkccfepmmgaa.Q.region_ext (by kernel_rfl) (by kernel_rfl) ?_
  repeat (go_big_quiet_step ((first | (go_at_call 12; refine ext_call (kp _)) | (go_at_call 10; refine ext_call (kaw _)))))
  refine wpQuiet_nil ?_
  rintro w9 ⟨pq, rfl⟩
  have hE := (HB6.out.px pq).be
  clear c0 c1 c2 c3 c4 c5 c6 c7 d0 d1 d2 d3 d4 d5 d6 d7
  go_wp2_with fail
  go_ret
  exact ⟨rfl, hE⟩
set_option maxHeartbeats 1600000 in
theorem one_any (x : ByteArray) (w : World) : Calls Try.prog 7 #[.string x] w fun e w' => e = .returned (.bool true) ∧ Below w.heap.size w w' := by
  have kaw := fun V => awake_any V
  by_cases h1 : 1000 < x.size
  · have t1 : decide (1000 < (x.size : Int)) = true := by simp; omega
    clear h1
    go_enter Try.func7, Try.ntmps7
    go_wp2_with fail
    (with_reducible refine (kaw _).mono ?_); rintro e1 W1 ⟨rfl, hb1⟩
    go_wp2_with fail
    go_ret
    exact ⟨rfl, hb1⟩
  have t1 : decide (1000 < (x.size : Int)) = false := by simp; omega
  have hs : x.size ≤ 1099511627776 := by omega
  have kd := fun V => decode_any x V hs
  by_cases hD : decE x = 0
  · obtain ⟨hc, hb⟩ := dec_enc hD
    rw [hD] at kd
    have ken := fun V => enc_any (decS x) V
    have kp := fun V => plain_any (decS x) V
    have krc := fun V => rcheck_any (decS x) V
    rw [show encS (decS x) = x by unfold encS; rw [if_pos hc, hb], hc] at ken
    rw [hc] at krc
    obtain ⟨s, hS⟩ : ∃ s, decS x = s := ⟨_, rfl⟩
    rw [hS] at kd kp ken krc
    clear hD hS h1 hs hc hb
    obtain ⟨t, p, e, v, n, m, l, b⟩ := s
    unfold Sc.vals at *
    dsimp only at *
    go_enter Try.func7, Try.ntmps7
    go_wp2_with fail
    (with_reducible refine (kd _).mono ?_); rintro e1 W1 ⟨rfl, hb1⟩
    have HB1 := Lib.hid (show Bk w W1 [] from ⟨hb1, fun _ h => by cases h⟩)
    have HB2 := Lib.hid (HB1.out.new 23 #[.int .i64 t, .bool p, .int .i64 e, .int .i64 v, .bool n, .int .i64 m, .int .i64 l, .string b])
    clear hb1 HB1 kd
    go_wp2_with fail
    (with_reducible refine (ken _).mono ?_); rintro e1 W2 ⟨rfl, hb1⟩
    have HB3 := Lib.hid (HB2.out.below hb1)
    have c0 := Blk.cell (HB3.out.nth 0 rfl) 0 (v := .int .i64 t) rfl
    have c1 := Blk.cell (HB3.out.nth 0 rfl) 1 (v := .bool p) rfl
    have c2 := Blk.cell (HB3.out.nth 0 rfl) 2 (v := .int .i64 e) rfl
    have c3 := Blk.cell (HB3.out.nth 0 rfl) 3 (v := .int .i64 v) rfl
    have c4 := Blk.cell (HB3.out.nth 0 rfl) 4 (v := .bool n) rfl
    have c5 := Blk.cell (HB3.out.nth 0 rfl) 5 (v := .int .i64 m) rfl
    have c6 := Blk.cell (HB3.out.nth 0 rfl) 6 (v := .int .i64 l) rfl
    have c7 := Blk.cell (HB3.out.nth 0 rfl) 7 (v := .string b) rfl
    clear HB2 hb1 ken
    go_wp2_with fail
    (with_reducible refine (kp _).mono ?_); rintro e1 W3 ⟨rfl, hb1⟩
    have HB4 := Lib.hid (HB3.out.below hb1)
    clear HB3 hb1 kp c0 c1 c2 c3 c4 c5 c6 c7
    go_wp2_with fail
    (with_reducible refine (krc _).mono ?_); rintro e1 W4 ⟨rfl, hb1⟩
    have HB5 := Lib.hid (HB4.out.below hb1)
    clear HB4 hb1 krc
    go_wp2_with fail
    (with_reducible refine (kaw _).mono ?_); rintro e1 W5 ⟨rfl, hb1⟩
    have hE := (HB5.out.below hb1).be
    go_wp2_with fail
    go_ret
    exact ⟨rfl, hE⟩
  · rw [show decS x = zeroS by unfold decS; rw [if_neg hD]] at kd
    obtain ⟨D, hDe⟩ : ∃ D, decE x = D := ⟨_, rfl⟩
    rw [hDe] at kd hD
    have t2 : (D != 0) = true := by simpa using hD
    have hq := fun V => eqTS zeroS zeroS V
    unfold zeroS Sc.vals at *
    dsimp only at *
    rw [decide_eq_true rfl] at hq
    clear hD hDe h1 hs
    go_enter Try.func7, Try.ntmps7
    go_wp2_with fail
    (with_reducible refine (kd _).mono ?_); rintro e1 W1 ⟨rfl, hb1⟩
    have HB1 := Lib.hid (show Bk w W1 [] from ⟨hb1, fun _ h => by cases h⟩)
    have HB2 := Lib.hid (HB1.out.new 23 #[.int .i64 0, .bool false, .int .i64 0, .int .i64 0, .bool false, .int .i64 0, .int .i64 0, .string nob])
    clear hb1 HB1 kd
    go_wp2_with fail
    (with_reducible refine (kaw _).mono ?_); rintro e1 W5 ⟨rfl, hb1⟩
    have hE := (HB2.out.below hb1).be
    go_wp2_with fail
    go_ret
    exact ⟨rfl, hE⟩
end Go.Proofs.Ytpigkccfepmmgaa.SeL
