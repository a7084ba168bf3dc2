/- SectionWrites: the walk. -/
import Derived.Test.YtpigkccfepmmgaaSeE
namespace Go.Proofs.Ytpigkccfepmmgaa.SeF
open Go Go.RowKit Go.Proofs.Ytpigkccfepmmgaa.Q Go.Proofs.Ytpigkccfepmmgaa.Mem Go.Proofs.Ytpigkccfepmmgaa.Rg Go.Proofs.Ytpigkccfepmmgaa.Ap Go.Proofs.Ytpigkccfepmmgaa.St Go.Proofs.Ytpigkccfepmmgaa.BiP Go.Proofs.Ytpigkccfepmmgaa.CrC Go.Proofs.Ytpigkccfepmmgaa.CrD Go.Proofs.Ytpigkccfepmmgaa.SeA Go.Proofs.Ytpigkccfepmmgaa.SeB Go.Proofs.Ytpigkccfepmmgaa.SeC Go.Proofs.Ytpigkccfepmmgaa.SeD Go.Proofs.Ytpigkccfepmmgaa.SeE
set_option maxRecDepth 100000
set_option maxHeartbeats 1600000 in
theorem writes_any (s : Sc) (w : World) : Calls Try.prog 3 #[.agg s.vals] w fun e w' => e = .returned (.bool true) ∧ Below w.heap.size w w' := by
  have kfew := few_any s.body
  have kpl := plain_any s
  have krc := rcheck_any s
  have kc := check_any s
  have ken := enc_any s
  have krb := fun V h1 h2 => rbytes_any s V h1 h2
  have kaw := awake_any
  have hz := @chk_zero s
  have hes : encS s = if s.chk = 0 then bytesS s else nob := rfl
  have HB := Lib.hid (bk1 w 23 s.vals)
  obtain ⟨c, hc⟩ : ∃ c, s.chk = c := ⟨_, rfl⟩
  rw [hc] at krc kc ken hz hes
  clear hc
  obtain ⟨t, p, e, v, n, m, l, b⟩ := s
  unfold Sc.vals at *
  dsimp only at *
  cases hf : fewB b with
  | false =>
    rw [hf] at kfew
    clear hf krb hz hes
    go_enter Try.func3, Try.ntmps3
    go_wp2_with fail
    (with_reducible refine (kfew _).mono ?_); rintro e1 W1 ⟨rfl, rfl⟩
    go_wp2_with fail
    (with_reducible refine (kaw _).mono ?_); rintro e1 W1 ⟨rfl, hb1⟩
    have hE := (HB.out.below hb1).be
    go_wp2_with fail
    go_ret
    exact ⟨rfl, hE⟩
  | true =>
    rw [hf] at kfew
    by_cases h0 : c = 0
    · subst h0
      obtain ⟨h1, h2⟩ := hz rfl
      have krb := fun V => krb V h1 h2
      rw [if_pos rfl] at hes
      rw [hes] at ken
      obtain ⟨Z, hZ⟩ : ∃ Z, bytesS ⟨t, p, e, v, n, m, l, b⟩ = Z := ⟨_, rfl⟩
      rw [hZ] at ken krb
      clear hf hes h1 h2 hZ hz
      go_enter Try.func3, Try.ntmps3
      go_wp2_with fail
      (with_reducible refine (kfew _).mono ?_); rintro e1 W1 ⟨rfl, rfl⟩
      go_wp2_with fail
      (with_reducible refine (kpl _).mono ?_); rintro e1 W1 ⟨rfl, hb1⟩
      have HB1 := Lib.hid (HB.out.below hb1)
      clear HB hb1
      go_wp2_with fail
      (with_reducible refine (krc _).mono ?_); rintro e1 W2 ⟨rfl, hb1⟩
      have HB2 := Lib.hid (HB1.out.below hb1)
      have c0 := Blk.cell (HB2.out.nth 0 rfl) 0 (v := .int .i64 t) rfl
      have c1 := Blk.cell (HB2.out.nth 0 rfl) 1 (v := .bool p) rfl
      have c2 := Blk.cell (HB2.out.nth 0 rfl) 2 (v := .int .i64 e) rfl
      have c3 := Blk.cell (HB2.out.nth 0 rfl) 3 (v := .int .i64 v) rfl
      have c4 := Blk.cell (HB2.out.nth 0 rfl) 4 (v := .bool n) rfl
      have c5 := Blk.cell (HB2.out.nth 0 rfl) 5 (v := .int .i64 m) rfl
      have c6 := Blk.cell (HB2.out.nth 0 rfl) 6 (v := .int .i64 l) rfl
      have c7 := Blk.cell (HB2.out.nth 0 rfl) 7 (v := .string b) rfl
      clear HB1 hb1
      go_wp2_with fail
      (with_reducible refine (ken _).mono ?_); rintro e1 W3 ⟨rfl, hb1⟩
      have HB3 := Lib.hid (HB2.out.below hb1)
      have d0 := Blk.cell (HB3.out.nth 0 rfl) 0 (v := .int .i64 t) rfl
      have d1 := Blk.cell (HB3.out.nth 0 rfl) 1 (v := .bool p) rfl
      have d2 := Blk.cell (HB3.out.nth 0 rfl) 2 (v := .int .i64 e) rfl
      have d3 := Blk.cell (HB3.out.nth 0 rfl) 3 (v := .int .i64 v) rfl
      have d4 := Blk.cell (HB3.out.nth 0 rfl) 4 (v := .bool n) rfl
      have d5 := Blk.cell (HB3.out.nth 0 rfl) 5 (v := .int .i64 m) rfl
      have d6 := Blk.cell (HB3.out.nth 0 rfl) 6 (v := .int .i64 l) rfl
      have d7 := Blk.cell (HB3.out.nth 0 rfl) 7 (v := .string b) rfl
      clear HB2 hb1 c0 c1 c2 c3 c4 c5 c6 c7
      go_wp2_with fail
      (with_reducible refine (kc _).mono ?_); rintro e1 W4 ⟨rfl, hb1⟩
      have HB4 := Lib.hid (HB3.out.below hb1)
      have c0 := Blk.cell (HB4.out.nth 0 rfl) 0 (v := .int .i64 t) rfl
      have c1 := Blk.cell (HB4.out.nth 0 rfl) 1 (v := .bool p) rfl
      have c2 := Blk.cell (HB4.out.nth 0 rfl) 2 (v := .int .i64 e) rfl
      have c3 := Blk.cell (HB4.out.nth 0 rfl) 3 (v := .int .i64 v) rfl
      have c4 := Blk.cell (HB4.out.nth 0 rfl) 4 (v := .bool n) rfl
      have c5 := Blk.cell (HB4.out.nth 0 rfl) 5 (v := .int .i64 m) rfl
      have c6 := Blk.cell (HB4.out.nth 0 rfl) 6 (v := .int .i64 l) rfl
      have c7 := Blk.cell (HB4.out.nth 0 rfl) 7 (v := .string b) rfl
      clear HB3 hb1 d0 d1 d2 d3 d4 d5 d6 d7
      go_wp2_with fail
      (with_reducible refine (kpl _).mono ?_); rintro e1 W5 ⟨rfl, hb1⟩
      have HB5 := Lib.hid (HB4.out.below hb1)
      clear HB4 hb1 c0 c1 c2 c3 c4 c5 c6 c7
      go_wp2_with fail
      (with_reducible refine (krb _).mono ?_); rintro e1 W6 ⟨rfl, hb1⟩
      have HB6 := Lib.hid (HB5.out.below hb1)
      clear HB5 hb1
      go_wp2_with fail
      (with_reducible refine (kaw _).mono ?_); rintro e1 W7 ⟨rfl, hb1⟩
      have hE := (HB6.out.below hb1).be
      go_wp2_with fail
      go_ret
      exact ⟨rfl, hE⟩
    · have t1 : (c != 0) = true := by simpa using h0
      rw [if_neg h0] at hes
      rw [hes] at ken
      clear hf hes hz krb h0
      go_enter Try.func3, Try.ntmps3
      go_wp2_with fail
      (with_reducible refine (kfew _).mono ?_); rintro e1 W1 ⟨rfl, rfl⟩
      go_wp2_with fail
      (with_reducible refine (kpl _).mono ?_); rintro e1 W1 ⟨rfl, hb1⟩
      have HB1 := Lib.hid (HB.out.below hb1)
      clear HB hb1
      go_wp2_with fail
      (with_reducible refine (krc _).mono ?_); rintro e1 W2 ⟨rfl, hb1⟩
      have HB2 := Lib.hid (HB1.out.below hb1)
      have c0 := Blk.cell (HB2.out.nth 0 rfl) 0 (v := .int .i64 t) rfl
      have c1 := Blk.cell (HB2.out.nth 0 rfl) 1 (v := .bool p) rfl
      have c2 := Blk.cell (HB2.out.nth 0 rfl) 2 (v := .int .i64 e) rfl
      have c3 := Blk.cell (HB2.out.nth 0 rfl) 3 (v := .int .i64 v) rfl
      have c4 := Blk.cell (HB2.out.nth 0 rfl) 4 (v := .bool n) rfl
      have c5 := Blk.cell (HB2.out.nth 0 rfl) 5 (v := .int .i64 m) rfl
      have c6 := Blk.cell (HB2.out.nth 0 rfl) 6 (v := .int .i64 l) rfl
      have c7 := Blk.cell (HB2.out.nth 0 rfl) 7 (v := .string b) rfl
      clear HB1 hb1
      go_wp2_with fail
      (with_reducible refine (ken _).mono ?_); rintro e1 W3 ⟨rfl, hb1⟩
      have HB3 := Lib.hid (HB2.out.below hb1)
      have d0 := Blk.cell (HB3.out.nth 0 rfl) 0 (v := .int .i64 t) rfl
      have d1 := Blk.cell (HB3.out.nth 0 rfl) 1 (v := .bool p) rfl
      have d2 := Blk.cell (HB3.out.nth 0 rfl) 2 (v := .int .i64 e) rfl
      have d3 := Blk.cell (HB3.out.nth 0 rfl) 3 (v := .int .i64 v) rfl
      have d4 := Blk.cell (HB3.out.nth 0 rfl) 4 (v := .bool n) rfl
      have d5 := Blk.cell (HB3.out.nth 0 rfl) 5 (v := .int .i64 m) rfl
      have d6 := Blk.cell (HB3.out.nth 0 rfl) 6 (v := .int .i64 l) rfl
      have d7 := Blk.cell (HB3.out.nth 0 rfl) 7 (v := .string b) rfl
      clear HB2 hb1 c0 c1 c2 c3 c4 c5 c6 c7
      go_wp2_with fail
      (with_reducible refine (kc _).mono ?_); rintro e1 W4 ⟨rfl, hb1⟩
      have HB4 := Lib.hid (HB3.out.below hb1)
      clear HB3 hb1 d0 d1 d2 d3 d4 d5 d6 d7
      go_wp2_with fail
      (with_reducible refine (kaw _).mono ?_); rintro e1 W7 ⟨rfl, hb1⟩
      have hE := (HB4.out.below hb1).be
      go_wp2_with fail
      go_ret
      exact ⟨rfl, hE⟩
end Go.Proofs.Ytpigkccfepmmgaa.SeF
