/- DescrOne: the walk. -/
import Derived.Test.YtbceakdifklocaaDvP
import Derived.Test.YtbceakdifklocaaDsO
namespace Go.Proofs.Ytbceakdifklocaa.DvO
open Go Go.RowKit Go.Proofs.Ytbceakdifklocaa.Q Go.Proofs.Ytbceakdifklocaa.Mem Go.Proofs.Ytbceakdifklocaa.DsA Go.Proofs.Ytbceakdifklocaa.DsB Go.Proofs.Ytbceakdifklocaa.DsC Go.Proofs.Ytbceakdifklocaa.DsD Go.Proofs.Ytbceakdifklocaa.DsE Go.Proofs.Ytbceakdifklocaa.DsI Go.Proofs.Ytbceakdifklocaa.DsO Go.Proofs.Ytbceakdifklocaa.DsP Go.Proofs.Ytbceakdifklocaa.DsQ Go.Proofs.Ytbceakdifklocaa.DsR Go.Proofs.Ytbceakdifklocaa.DsS Go.Proofs.Ytbceakdifklocaa.DsU Go.Proofs.Ytbceakdifklocaa.DsW Go.Proofs.Ytbceakdifklocaa.DsX Go.Proofs.Ytbceakdifklocaa.DsY Go.Proofs.Ytbceakdifklocaa.DtB Go.Proofs.Ytbceakdifklocaa.DtD Go.Proofs.Ytbceakdifklocaa.DtE Go.Proofs.Ytbceakdifklocaa.DuA Go.Proofs.Ytbceakdifklocaa.DuB Go.Proofs.Ytbceakdifklocaa.DuC Go.Proofs.Ytbceakdifklocaa.DuD Go.Proofs.Ytbceakdifklocaa.DuE Go.Proofs.Ytbceakdifklocaa.DvP Go.Proofs.Ytbceakdifklocaa.Rg Go.Proofs.Ytbceakdifklocaa.Ap
theorem rdI_ok : ∀ (f : Nat) (A : List (List Dc)) (t : ByteArray), (rdI f A t).1 = 0 → (rdI f A t).2.length ≤ A.length + f ∧ ∀ L ∈ (rdI f A t).2, L ∈ A ∨ L.length ≤ 4200
  | 0, A, t, _ => ⟨by simp [rdI], fun L h => Or.inl (by simpa [rdI] using h)⟩
  | f + 1, A, t, h => by
    have hl : (tkL t).length ≤ 4200 := by unfold tkL; split; (simp); exact prsL_len _
    by_cases hz : tkE t = 0
    · by_cases hg : (tkR t).size ≠ 0 ∨ (A.length + 1) % 2 = 0
      · have e : rdI (f + 1) A t = rdI f (A ++ [tkL t]) (tkR t) := by rw [rdI, if_neg (by simpa using hz), if_pos hg]
        rw [e] at h ⊢
        obtain ⟨h1, h2⟩ := rdI_ok f _ _ h
        refine ⟨by simp at h1 ⊢; omega, fun L hL => ?_⟩
        rcases h2 L hL with h | h
        · rcases List.mem_append.1 h with h | h
          · exact Or.inl h
          · simp at h; subst h; exact Or.inr hl
        · exact Or.inr h
      · have e : rdI (f + 1) A t = (0, A ++ [tkL t]) := by rw [rdI, if_neg (by simpa using hz), if_neg hg]
        rw [e]
        refine ⟨by simp <;> omega, fun L hL => ?_⟩
        rcases List.mem_append.1 hL with h | h
        · exact Or.inl h
        · simp at h; subst h; exact Or.inr hl
    · have e : (rdI (f + 1) A t).1 = tkE t := by rw [rdI, if_pos hz]
      rw [e] at h
      exact absurd h hz
theorem ri_zero {ext : Int} {s : ByteArray} (h : riE ext s = 0) : (riR s).1 = 0 ∧ riOK ext s := by
  unfold riE at h
  split at h
  · omega
  split at h
  · omega
  split at h
  · rename_i h3; exact absurd h h3
  split at h
  · rename_i h3 h4
    exact ⟨by simpa using h3, h4⟩
  · omega
theorem ri_any (ext : Int) (s : ByteArray) (w : World) (hs : s.size ≤ 100000) : Calls Try.prog 34 #[.int .i64 ext, .string s] w fun e w' => Got ext s w w' e := by
  cases h : in1 65535 ext with
  | false => exact ri_short ext s w (Or.inl h)
  | true =>
    by_cases h4 : s.size < 4
    · exact ri_short ext s w (Or.inr h4)
    · exact ri_go ext s w h h4 hs
set_option maxRecDepth 100000
set_option maxHeartbeats 3200000 in
theorem one_none (d : Dc) (s : ByteArray) (ext : Int) (w : World) (h1 : ¬ 300 < d.body.size) (h2 : ¬ 5000 < s.size) (hr : rdE d ≠ 0) (hp : plE d ≠ 0) (ht : rtE d ≠ 0) : Calls Try.prog 9 #[.agg #[.int .i64 d.tag, .string d.body], .string s, .int .i64 ext] w fun e w' => e = .returned (.bool true) ∧ Below w.heap.size w w' := by
  have t1 : decide (300 < (d.body.size : Int)) = false := by simp; omega
  have t2 : decide (5000 < (s.size : Int)) = false := by simp; omega
  have hS5 := Lib.hid (show s.size ≤ 5000 by omega)
  have kaw := fun V => awake_any V
  have kri := fun V => ri_any ext s V (by omega)
  have k7 := fun V => parse_any s V
  have k1 := fun V => read_any d V
  have k3 := fun V => rplace_any d V
  have k5 := fun V => rt_any d V (by omega)
  obtain ⟨X, hX⟩ : ∃ x, rdS d = x := ⟨_, rfl⟩
  obtain ⟨Y, hY⟩ : ∃ x, plR d = x := ⟨_, rfl⟩
  obtain ⟨E1, hE1⟩ : ∃ x, rdE d = x := ⟨_, rfl⟩
  obtain ⟨E3, hE3⟩ : ∃ x, plE d = x := ⟨_, rfl⟩
  obtain ⟨E5, hE5⟩ : ∃ x, rtE d = x := ⟨_, rfl⟩
  obtain ⟨RL, hRL⟩ : ∃ x, rtL d = x := ⟨_, rfl⟩
  rw [hX, hE1] at k1
  rw [hY, hE3] at k3
  rw [hE5, hRL] at k5
  rw [hE1] at hr
  rw [hE3] at hp
  rw [hE5] at ht
  have q1 : (E1 == 0) = false := by simpa using hr
  have q3 : (E3 == 0) = false := by simpa using hp
  have q5 : (E5 == 0) = false := by simpa using ht
  unfold Sl.vals at k1
  unfold Pl.vals at k3
  have HB := Lib.hid (bk1 w 30 #[.int .i64 d.tag, .string d.body])
  clear hX hY hE1 hE3 hE5 hRL h1 h2 hr hp ht
  go_enter Try.func9, Try.ntmps9
  go_wp2_with fail
  (with_reducible refine (k1 _).mono ?_); rintro e1 W1 ⟨rfl, hb1⟩
  have HB1 := Lib.hid ((HB.out.below hb1).al (.cells #[.bool X.sl, .bool X.fec, .int .i64 X.rows, .int .i64 X.burst, .int .i64 X.rate, .int .i64 X.id, .string X.more] 23))
  have b0 := Blk.cell (HB1.out.nth 0 rfl) 0 (v := .int .i64 d.tag) rfl
  have b1 := Blk.cell (HB1.out.nth 0 rfl) 1 (v := .string d.body) rfl
  clear hb1 k1
  go_wp2_with fail
  (with_reducible refine (k3 _).mono ?_); rintro e1 W3 ⟨rfl, hb3⟩
  have HB3 := Lib.hid ((HB1.out.below hb3).al (.cells #[.int .i64 Y.n, .int .i64 Y.o, .int .i64 Y.s, .int .i64 Y.v, .int .i64 Y.t] 26))
  clear b0 b1
  have b0 := Blk.cell (HB3.out.nth 0 rfl) 0 (v := .int .i64 d.tag) rfl
  have b1 := Blk.cell (HB3.out.nth 0 rfl) 1 (v := .string d.body) rfl
  clear hb3 k3
  go_wp2_with fail
  (with_reducible refine (k5 _).mono ?_); rintro e1 W5 ⟨a5, c5, rfl, hs5, hb5⟩
  have HBq := Lib.hid (HB3.out.below hb5).be
  clear k5 hb5 hs5 b0 b1
  go_wp2_with fail
  (with_reducible refine (k7 _).mono ?_); rintro e1 W7 ⟨a7, c7, rfl, hd7, hb7⟩
  by_cases hP : prsE s = 0
  · obtain ⟨m1, m2⟩ := prs_made hP
    rw [hP]
    have k8 := loop_at a7 c7 _ (prsL s) W7 rfl (by have := prsL_len s; omega) hd7
    rw [if_pos m1, m1, m2] at k8
    have HBo := Lib.hid (HBq.out.trans (hb7.mono HBq.out.size))
    clear hP m1 m2 hd7 hb7 k7
    go_wp2_with fail
    (with_reducible refine (k8).mono ?_); rintro e1 W8 ⟨rfl, hb8⟩
    have HBp := Lib.hid (HBo.out.trans (hb8.mono HBo.out.size))
    clear k8 hb8
    go_wp2_with fail
    (with_reducible refine (kri _).mono ?_); rintro e1 W9 ⟨⟨v, rfl, hz, hv⟩, hb9⟩
    have HB9 := Lib.hid (HBp.out.trans (hb9.mono HBp.out.size))
    by_cases hE : riE ext s = 0
    · obtain ⟨iv, ea, n, ec, PS, rfl, hn, hps, hse⟩ := hv hE
      obtain ⟨z1, z2, z3, z4⟩ := ri_zero hE
      obtain ⟨y1, y2⟩ := rdI_ok _ _ _ z1
      have hlen := hps.1
      rw [lvs_len, hn] at hlen
      have hn9 : n ≤ 100000 := by
        have hh : (riR s).2.length ≤ 0 + (s.size + 1) := y1
        have := hS5.out
        omega
      have isl := hps.sl (v := iv) (by simp [lvs])
      obtain ⟨ia, im, ic, rfl⟩ := isl
      have hbw := (Below.refl W9.heap.size W9).alloc (Nat.le_refl _) (.cells #[.int .i64 (ext / 256), .int .i64 (platOf s), .int .i64 (at' s 3), .slice ia im ic, .slice ea n ec] 82)
      have kb := body_any (ext / 256) (platOf s) (at' s 3) (.slice ia im ic) ea n ec PS (riR s).2 (W9.alloc (.cells #[.int .i64 (ext / 256), .int .i64 (platOf s), .int .i64 (at' s 3), .slice ia im ic, .slice ea n ec] 82)) hn hn9 (hps.below hbw) (fun L hL => by rcases y2 L hL with h | h; (cases h); omega) (hse.below (Nat.le_refl _) hbw)
      have ke := fun V => ext_any (ext / 256) (platOf s) (at' s 3) (.slice ia im ic) (.slice ea n ec) V ⟨ia, im, ic, rfl⟩ ⟨ea, n, ec, rfl⟩
      rw [z2, z3] at kb
      rw [z4] at ke
      rw [hE]
      have HB10 := Lib.hid (show Bk w W9 [] from ⟨HB9.out, fun _ h => by cases h⟩)
      have HB11 := Lib.hid (HB10.out.new 82 #[.int .i64 (ext / 256), .int .i64 (platOf s), .int .i64 (at' s 3), .slice ia im ic, .slice ea n ec])
      have c0 := Blk.cell (HB11.out.nth 0 rfl) 0 (v := .int .i64 (ext / 256)) rfl
      have c1 := Blk.cell (HB11.out.nth 0 rfl) 1 (v := .int .i64 (platOf s)) rfl
      have c2 := Blk.cell (HB11.out.nth 0 rfl) 2 (v := .int .i64 (at' s 3)) rfl
      have c3 := Blk.cell (HB11.out.nth 0 rfl) 3 (v := .slice ia im ic) rfl
      have c4 := Blk.cell (HB11.out.nth 0 rfl) 4 (v := .slice ea n ec) rfl
      clear hz hv hE z1 z2 z3 z4 y1 y2 hlen hn hps hse hb9 hbw kri
      go_wp2_with fail
      (with_reducible refine (kb).mono ?_); rintro e1 W10 ⟨rfl, hb10⟩
      have HB12 := Lib.hid (HB11.out.below hb10)
      clear c0 c1 c2 c3 c4
      have c0 := Blk.cell (HB12.out.nth 0 rfl) 0 (v := .int .i64 (ext / 256)) rfl
      have c1 := Blk.cell (HB12.out.nth 0 rfl) 1 (v := .int .i64 (platOf s)) rfl
      have c2 := Blk.cell (HB12.out.nth 0 rfl) 2 (v := .int .i64 (at' s 3)) rfl
      have c3 := Blk.cell (HB12.out.nth 0 rfl) 3 (v := .slice ia im ic) rfl
      have c4 := Blk.cell (HB12.out.nth 0 rfl) 4 (v := .slice ea n ec) rfl
      clear kb hb10
      go_wp2_with fail
      (with_reducible refine (ke _).mono ?_); rintro e1 W11 ⟨rfl, hb11⟩
      have HB13 := Lib.hid (HB12.out.below hb11)
      clear ke hb11 c0 c1 c2 c3 c4
      go_wp2_with fail
      (with_reducible refine (kaw _).mono ?_); rintro e1 W12 ⟨rfl, hb12⟩
      have hEn := (HB13.out.below hb12).be
      go_wp2_with fail
      go_ret
      exact ⟨rfl, hEn⟩
    · obtain rfl := hz hE
      unfold zeroI
      obtain ⟨RE, hRE⟩ : ∃ x, riE ext s = x := ⟨_, rfl⟩
      rw [hRE] at hE ⊢
      have t9 : (RE != 0) = true := by simpa using hE
      have HB10 := Lib.hid (show Bk w W9 [] from ⟨HB9.out, fun _ h => by cases h⟩)
      have HB11 := Lib.hid (HB10.out.new 82 #[.int .i64 0, .int .i64 0, .int .i64 0, .slice none 0 0, .slice none 0 0])
      clear hv hz hE hRE hb9 kri
      go_wp2_with fail
      (with_reducible refine (kaw _).mono ?_); rintro e1 W12 ⟨rfl, hb12⟩
      have hEn := (HB11.out.below hb12).be
      go_wp2_with fail
      go_ret
      exact ⟨rfl, hEn⟩
  · obtain ⟨PE, hPE⟩ : ∃ x, prsE s = x := ⟨_, rfl⟩
    rw [hPE] at hP ⊢
    have t8 : (PE == 0) = false := by simpa using hP
    have HBp := Lib.hid (HBq.out.trans (hb7.mono HBq.out.size))
    clear hP hPE hd7 hb7 k7
    go_wp2_with fail
    (with_reducible refine (kri _).mono ?_); rintro e1 W9 ⟨⟨v, rfl, hz, hv⟩, hb9⟩
    have HB9 := Lib.hid (HBp.out.trans (hb9.mono HBp.out.size))
    by_cases hE : riE ext s = 0
    · obtain ⟨iv, ea, n, ec, PS, rfl, hn, hps, hse⟩ := hv hE
      obtain ⟨z1, z2, z3, z4⟩ := ri_zero hE
      obtain ⟨y1, y2⟩ := rdI_ok _ _ _ z1
      have hlen := hps.1
      rw [lvs_len, hn] at hlen
      have hn9 : n ≤ 100000 := by
        have hh : (riR s).2.length ≤ 0 + (s.size + 1) := y1
        have := hS5.out
        omega
      have isl := hps.sl (v := iv) (by simp [lvs])
      obtain ⟨ia, im, ic, rfl⟩ := isl
      have hbw := (Below.refl W9.heap.size W9).alloc (Nat.le_refl _) (.cells #[.int .i64 (ext / 256), .int .i64 (platOf s), .int .i64 (at' s 3), .slice ia im ic, .slice ea n ec] 82)
      have kb := body_any (ext / 256) (platOf s) (at' s 3) (.slice ia im ic) ea n ec PS (riR s).2 (W9.alloc (.cells #[.int .i64 (ext / 256), .int .i64 (platOf s), .int .i64 (at' s 3), .slice ia im ic, .slice ea n ec] 82)) hn hn9 (hps.below hbw) (fun L hL => by rcases y2 L hL with h | h; (cases h); omega) (hse.below (Nat.le_refl _) hbw)
      have ke := fun V => ext_any (ext / 256) (platOf s) (at' s 3) (.slice ia im ic) (.slice ea n ec) V ⟨ia, im, ic, rfl⟩ ⟨ea, n, ec, rfl⟩
      rw [z2, z3] at kb
      rw [z4] at ke
      rw [hE]
      have HB10 := Lib.hid (show Bk w W9 [] from ⟨HB9.out, fun _ h => by cases h⟩)
      have HB11 := Lib.hid (HB10.out.new 82 #[.int .i64 (ext / 256), .int .i64 (platOf s), .int .i64 (at' s 3), .slice ia im ic, .slice ea n ec])
      have c0 := Blk.cell (HB11.out.nth 0 rfl) 0 (v := .int .i64 (ext / 256)) rfl
      have c1 := Blk.cell (HB11.out.nth 0 rfl) 1 (v := .int .i64 (platOf s)) rfl
      have c2 := Blk.cell (HB11.out.nth 0 rfl) 2 (v := .int .i64 (at' s 3)) rfl
      have c3 := Blk.cell (HB11.out.nth 0 rfl) 3 (v := .slice ia im ic) rfl
      have c4 := Blk.cell (HB11.out.nth 0 rfl) 4 (v := .slice ea n ec) rfl
      clear hz hv hE z1 z2 z3 z4 y1 y2 hlen hn hps hse hb9 hbw kri
      go_wp2_with fail
      (with_reducible refine (kb).mono ?_); rintro e1 W10 ⟨rfl, hb10⟩
      have HB12 := Lib.hid (HB11.out.below hb10)
      clear c0 c1 c2 c3 c4
      have c0 := Blk.cell (HB12.out.nth 0 rfl) 0 (v := .int .i64 (ext / 256)) rfl
      have c1 := Blk.cell (HB12.out.nth 0 rfl) 1 (v := .int .i64 (platOf s)) rfl
      have c2 := Blk.cell (HB12.out.nth 0 rfl) 2 (v := .int .i64 (at' s 3)) rfl
      have c3 := Blk.cell (HB12.out.nth 0 rfl) 3 (v := .slice ia im ic) rfl
      have c4 := Blk.cell (HB12.out.nth 0 rfl) 4 (v := .slice ea n ec) rfl
      clear kb hb10
      go_wp2_with fail
      (with_reducible refine (ke _).mono ?_); rintro e1 W11 ⟨rfl, hb11⟩
      have HB13 := Lib.hid (HB12.out.below hb11)
      clear ke hb11 c0 c1 c2 c3 c4
      go_wp2_with fail
      (with_reducible refine (kaw _).mono ?_); rintro e1 W12 ⟨rfl, hb12⟩
      have hEn := (HB13.out.below hb12).be
      go_wp2_with fail
      go_ret
      exact ⟨rfl, hEn⟩
    · obtain rfl := hz hE
      unfold zeroI
      obtain ⟨RE, hRE⟩ : ∃ x, riE ext s = x := ⟨_, rfl⟩
      rw [hRE] at hE ⊢
      have t9 : (RE != 0) = true := by simpa using hE
      have HB10 := Lib.hid (show Bk w W9 [] from ⟨HB9.out, fun _ h => by cases h⟩)
      have HB11 := Lib.hid (HB10.out.new 82 #[.int .i64 0, .int .i64 0, .int .i64 0, .slice none 0 0, .slice none 0 0])
      clear hv hz hE hRE hb9 kri
      go_wp2_with fail
      (with_reducible refine (kaw _).mono ?_); rintro e1 W12 ⟨rfl, hb12⟩
      have hEn := (HB11.out.below hb12).be
      go_wp2_with fail
      go_ret
      exact ⟨rfl, hEn⟩

set_option maxHeartbeats 3200000 in
theorem one_slice (d : Dc) (s : ByteArray) (ext : Int) (w : World) (h1 : ¬ 300 < d.body.size) (h2 : ¬ 5000 < s.size) (hr : rdE d = 0) : Calls Try.prog 9 #[.agg #[.int .i64 d.tag, .string d.body], .string s, .int .i64 ext] w fun e w' => e = .returned (.bool true) ∧ Below w.heap.size w w' := by
  have hp : plE d ≠ 0 := by
    unfold rdE at hr; unfold plE
    split at hr
    · omega
    · rw [if_pos (by omega)]; decide
  have ht : rtE d ≠ 0 := by
    unfold rdE at hr; unfold rtE
    split at hr
    · omega
    · rw [if_pos (by omega)]; decide
  have t1 : decide (300 < (d.body.size : Int)) = false := by simp; omega
  have t2 : decide (5000 < (s.size : Int)) = false := by simp; omega
  have hS5 := Lib.hid (show s.size ≤ 5000 by omega)
  have kaw := fun V => awake_any V
  have kri := fun V => ri_any ext s V (by omega)
  have k7 := fun V => parse_any s V
  have k1 := fun V => read_any d V
  have k3 := fun V => rplace_any d V
  have k5 := fun V => rt_any d V (by omega)
  have hqd := fun V => eqD d d V
  rw [decide_eq_true rfl] at hqd
  have k2 := fun V => make_any (rdS d) V
  rw [show rdS d = rd d.body by unfold rdS; rw [if_pos hr]] at k1 k2
  rw [(rd_make d hr).1, (rd_make d hr).2] at k2
  rw [hr] at k1
  obtain ⟨X, hX⟩ : ∃ x, rd d.body = x := ⟨_, rfl⟩
  obtain ⟨Y, hY⟩ : ∃ x, plR d = x := ⟨_, rfl⟩
  obtain ⟨E3, hE3⟩ : ∃ x, plE d = x := ⟨_, rfl⟩
  obtain ⟨E5, hE5⟩ : ∃ x, rtE d = x := ⟨_, rfl⟩
  obtain ⟨RL, hRL⟩ : ∃ x, rtL d = x := ⟨_, rfl⟩
  rw [hX] at k1 k2
  rw [hY, hE3] at k3
  rw [hE5, hRL] at k5
  rw [hE3] at hp
  rw [hE5] at ht
  have q3 : (E3 == 0) = false := by simpa using hp
  have q5 : (E5 == 0) = false := by simpa using ht
  unfold Sl.vals at k1 k2
  unfold Pl.vals at k3
  have HB := Lib.hid (bk1 w 30 #[.int .i64 d.tag, .string d.body])
  clear hX hY hE3 hE5 hRL h1 h2 hr hp ht
  go_enter Try.func9, Try.ntmps9
  go_wp2_with fail
  (with_reducible refine (k1 _).mono ?_); rintro e1 W1 ⟨rfl, hb1⟩
  have HB1 := Lib.hid ((HB.out.below hb1).new 23 #[.bool X.sl, .bool X.fec, .int .i64 X.rows, .int .i64 X.burst, .int .i64 X.rate, .int .i64 X.id, .string X.more])
  have c0 := Blk.cell (HB1.out.nth 0 rfl) 0 (v := .bool X.sl) rfl
  have c1 := Blk.cell (HB1.out.nth 0 rfl) 1 (v := .bool X.fec) rfl
  have c2 := Blk.cell (HB1.out.nth 0 rfl) 2 (v := .int .i64 X.rows) rfl
  have c3 := Blk.cell (HB1.out.nth 0 rfl) 3 (v := .int .i64 X.burst) rfl
  have c4 := Blk.cell (HB1.out.nth 0 rfl) 4 (v := .int .i64 X.rate) rfl
  have c5 := Blk.cell (HB1.out.nth 0 rfl) 5 (v := .int .i64 X.id) rfl
  have c6 := Blk.cell (HB1.out.nth 0 rfl) 6 (v := .string X.more) rfl
  clear hb1 k1
  go_wp2_with fail
  (with_reducible refine (k2 _).mono ?_); rintro e1 W2 ⟨rfl, hb2⟩
  have HB2 := Lib.hid ((HB1.out.below hb2).new 30 #[.int .i64 d.tag, .string d.body])
  clear c0 c1 c2 c3 c4 c5 c6 hb2 k2
  have b0 := Blk.cell (HB2.out.nth 2 rfl) 0 (v := .int .i64 d.tag) rfl
  have b1 := Blk.cell (HB2.out.nth 2 rfl) 1 (v := .string d.body) rfl
  have c0 := Blk.cell (HB2.out.nth 0 rfl) 0 (v := .int .i64 d.tag) rfl
  have c1 := Blk.cell (HB2.out.nth 0 rfl) 1 (v := .string d.body) rfl
  go_wp2_with fail
  (with_reducible refine (k3 _).mono ?_); rintro e1 W3 ⟨rfl, hb3⟩
  have HB3 := Lib.hid ((HB2.out.below hb3).al (.cells #[.int .i64 Y.n, .int .i64 Y.o, .int .i64 Y.s, .int .i64 Y.v, .int .i64 Y.t] 26))
  clear b0 b1 c0 c1
  have b0 := Blk.cell (HB3.out.nth 2 rfl) 0 (v := .int .i64 d.tag) rfl
  have b1 := Blk.cell (HB3.out.nth 2 rfl) 1 (v := .string d.body) rfl
  clear hb3 k3
  go_wp2_with fail
  (with_reducible refine (k5 _).mono ?_); rintro e1 W5 ⟨a5, c5, rfl, hs5, hb5⟩
  have HBq := Lib.hid (HB3.out.below hb5).be
  clear k5 hb5 hs5 b0 b1
  go_wp2_with fail
  (with_reducible refine (k7 _).mono ?_); rintro e1 W7 ⟨a7, c7, rfl, hd7, hb7⟩
  by_cases hP : prsE s = 0
  · obtain ⟨m1, m2⟩ := prs_made hP
    rw [hP]
    have k8 := loop_at a7 c7 _ (prsL s) W7 rfl (by have := prsL_len s; omega) hd7
    rw [if_pos m1, m1, m2] at k8
    have HBo := Lib.hid (HBq.out.trans (hb7.mono HBq.out.size))
    clear hP m1 m2 hd7 hb7 k7
    go_wp2_with fail
    (with_reducible refine (k8).mono ?_); rintro e1 W8 ⟨rfl, hb8⟩
    have HBp := Lib.hid (HBo.out.trans (hb8.mono HBo.out.size))
    clear k8 hb8
    go_wp2_with fail
    (with_reducible refine (kri _).mono ?_); rintro e1 W9 ⟨⟨v, rfl, hz, hv⟩, hb9⟩
    have HB9 := Lib.hid (HBp.out.trans (hb9.mono HBp.out.size))
    by_cases hE : riE ext s = 0
    · obtain ⟨iv, ea, n, ec, PS, rfl, hn, hps, hse⟩ := hv hE
      obtain ⟨z1, z2, z3, z4⟩ := ri_zero hE
      obtain ⟨y1, y2⟩ := rdI_ok _ _ _ z1
      have hlen := hps.1
      rw [lvs_len, hn] at hlen
      have hn9 : n ≤ 100000 := by
        have hh : (riR s).2.length ≤ 0 + (s.size + 1) := y1
        have := hS5.out
        omega
      have isl := hps.sl (v := iv) (by simp [lvs])
      obtain ⟨ia, im, ic, rfl⟩ := isl
      have hbw := (Below.refl W9.heap.size W9).alloc (Nat.le_refl _) (.cells #[.int .i64 (ext / 256), .int .i64 (platOf s), .int .i64 (at' s 3), .slice ia im ic, .slice ea n ec] 82)
      have kb := body_any (ext / 256) (platOf s) (at' s 3) (.slice ia im ic) ea n ec PS (riR s).2 (W9.alloc (.cells #[.int .i64 (ext / 256), .int .i64 (platOf s), .int .i64 (at' s 3), .slice ia im ic, .slice ea n ec] 82)) hn hn9 (hps.below hbw) (fun L hL => by rcases y2 L hL with h | h; (cases h); omega) (hse.below (Nat.le_refl _) hbw)
      have ke := fun V => ext_any (ext / 256) (platOf s) (at' s 3) (.slice ia im ic) (.slice ea n ec) V ⟨ia, im, ic, rfl⟩ ⟨ea, n, ec, rfl⟩
      rw [z2, z3] at kb
      rw [z4] at ke
      rw [hE]
      have HB10 := Lib.hid (show Bk w W9 [] from ⟨HB9.out, fun _ h => by cases h⟩)
      have HB11 := Lib.hid (HB10.out.new 82 #[.int .i64 (ext / 256), .int .i64 (platOf s), .int .i64 (at' s 3), .slice ia im ic, .slice ea n ec])
      have c0 := Blk.cell (HB11.out.nth 0 rfl) 0 (v := .int .i64 (ext / 256)) rfl
      have c1 := Blk.cell (HB11.out.nth 0 rfl) 1 (v := .int .i64 (platOf s)) rfl
      have c2 := Blk.cell (HB11.out.nth 0 rfl) 2 (v := .int .i64 (at' s 3)) rfl
      have c3 := Blk.cell (HB11.out.nth 0 rfl) 3 (v := .slice ia im ic) rfl
      have c4 := Blk.cell (HB11.out.nth 0 rfl) 4 (v := .slice ea n ec) rfl
      clear hz hv hE z1 z2 z3 z4 y1 y2 hlen hn hps hse hb9 hbw kri
      go_wp2_with fail
      (with_reducible refine (kb).mono ?_); rintro e1 W10 ⟨rfl, hb10⟩
      have HB12 := Lib.hid (HB11.out.below hb10)
      clear c0 c1 c2 c3 c4
      have c0 := Blk.cell (HB12.out.nth 0 rfl) 0 (v := .int .i64 (ext / 256)) rfl
      have c1 := Blk.cell (HB12.out.nth 0 rfl) 1 (v := .int .i64 (platOf s)) rfl
      have c2 := Blk.cell (HB12.out.nth 0 rfl) 2 (v := .int .i64 (at' s 3)) rfl
      have c3 := Blk.cell (HB12.out.nth 0 rfl) 3 (v := .slice ia im ic) rfl
      have c4 := Blk.cell (HB12.out.nth 0 rfl) 4 (v := .slice ea n ec) rfl
      clear kb hb10
      go_wp2_with fail
      (with_reducible refine (ke _).mono ?_); rintro e1 W11 ⟨rfl, hb11⟩
      have HB13 := Lib.hid (HB12.out.below hb11)
      clear ke hb11 c0 c1 c2 c3 c4
      go_wp2_with fail
      (with_reducible refine (kaw _).mono ?_); rintro e1 W12 ⟨rfl, hb12⟩
      have hEn := (HB13.out.below hb12).be
      go_wp2_with fail
      go_ret
      exact ⟨rfl, hEn⟩
    · obtain rfl := hz hE
      unfold zeroI
      obtain ⟨RE, hRE⟩ : ∃ x, riE ext s = x := ⟨_, rfl⟩
      rw [hRE] at hE ⊢
      have t9 : (RE != 0) = true := by simpa using hE
      have HB10 := Lib.hid (show Bk w W9 [] from ⟨HB9.out, fun _ h => by cases h⟩)
      have HB11 := Lib.hid (HB10.out.new 82 #[.int .i64 0, .int .i64 0, .int .i64 0, .slice none 0 0, .slice none 0 0])
      clear hv hz hE hRE hb9 kri
      go_wp2_with fail
      (with_reducible refine (kaw _).mono ?_); rintro e1 W12 ⟨rfl, hb12⟩
      have hEn := (HB11.out.below hb12).be
      go_wp2_with fail
      go_ret
      exact ⟨rfl, hEn⟩
  · obtain ⟨PE, hPE⟩ : ∃ x, prsE s = x := ⟨_, rfl⟩
    rw [hPE] at hP ⊢
    have t8 : (PE == 0) = false := by simpa using hP
    have HBp := Lib.hid (HBq.out.trans (hb7.mono HBq.out.size))
    clear hP hPE hd7 hb7 k7
    go_wp2_with fail
    (with_reducible refine (kri _).mono ?_); rintro e1 W9 ⟨⟨v, rfl, hz, hv⟩, hb9⟩
    have HB9 := Lib.hid (HBp.out.trans (hb9.mono HBp.out.size))
    by_cases hE : riE ext s = 0
    · obtain ⟨iv, ea, n, ec, PS, rfl, hn, hps, hse⟩ := hv hE
      obtain ⟨z1, z2, z3, z4⟩ := ri_zero hE
      obtain ⟨y1, y2⟩ := rdI_ok _ _ _ z1
      have hlen := hps.1
      rw [lvs_len, hn] at hlen
      have hn9 : n ≤ 100000 := by
        have hh : (riR s).2.length ≤ 0 + (s.size + 1) := y1
        have := hS5.out
        omega
      have isl := hps.sl (v := iv) (by simp [lvs])
      obtain ⟨ia, im, ic, rfl⟩ := isl
      have hbw := (Below.refl W9.heap.size W9).alloc (Nat.le_refl _) (.cells #[.int .i64 (ext / 256), .int .i64 (platOf s), .int .i64 (at' s 3), .slice ia im ic, .slice ea n ec] 82)
      have kb := body_any (ext / 256) (platOf s) (at' s 3) (.slice ia im ic) ea n ec PS (riR s).2 (W9.alloc (.cells #[.int .i64 (ext / 256), .int .i64 (platOf s), .int .i64 (at' s 3), .slice ia im ic, .slice ea n ec] 82)) hn hn9 (hps.below hbw) (fun L hL => by rcases y2 L hL with h | h; (cases h); omega) (hse.below (Nat.le_refl _) hbw)
      have ke := fun V => ext_any (ext / 256) (platOf s) (at' s 3) (.slice ia im ic) (.slice ea n ec) V ⟨ia, im, ic, rfl⟩ ⟨ea, n, ec, rfl⟩
      rw [z2, z3] at kb
      rw [z4] at ke
      rw [hE]
      have HB10 := Lib.hid (show Bk w W9 [] from ⟨HB9.out, fun _ h => by cases h⟩)
      have HB11 := Lib.hid (HB10.out.new 82 #[.int .i64 (ext / 256), .int .i64 (platOf s), .int .i64 (at' s 3), .slice ia im ic, .slice ea n ec])
      have c0 := Blk.cell (HB11.out.nth 0 rfl) 0 (v := .int .i64 (ext / 256)) rfl
      have c1 := Blk.cell (HB11.out.nth 0 rfl) 1 (v := .int .i64 (platOf s)) rfl
      have c2 := Blk.cell (HB11.out.nth 0 rfl) 2 (v := .int .i64 (at' s 3)) rfl
      have c3 := Blk.cell (HB11.out.nth 0 rfl) 3 (v := .slice ia im ic) rfl
      have c4 := Blk.cell (HB11.out.nth 0 rfl) 4 (v := .slice ea n ec) rfl
      clear hz hv hE z1 z2 z3 z4 y1 y2 hlen hn hps hse hb9 hbw kri
      go_wp2_with fail
      (with_reducible refine (kb).mono ?_); rintro e1 W10 ⟨rfl, hb10⟩
      have HB12 := Lib.hid (HB11.out.below hb10)
      clear c0 c1 c2 c3 c4
      have c0 := Blk.cell (HB12.out.nth 0 rfl) 0 (v := .int .i64 (ext / 256)) rfl
      have c1 := Blk.cell (HB12.out.nth 0 rfl) 1 (v := .int .i64 (platOf s)) rfl
      have c2 := Blk.cell (HB12.out.nth 0 rfl) 2 (v := .int .i64 (at' s 3)) rfl
      have c3 := Blk.cell (HB12.out.nth 0 rfl) 3 (v := .slice ia im ic) rfl
      have c4 := Blk.cell (HB12.out.nth 0 rfl) 4 (v := .slice ea n ec) rfl
      clear kb hb10
      go_wp2_with fail
      (with_reducible refine (ke _).mono ?_); rintro e1 W11 ⟨rfl, hb11⟩
      have HB13 := Lib.hid (HB12.out.below hb11)
      clear ke hb11 c0 c1 c2 c3 c4
      go_wp2_with fail
      (with_reducible refine (kaw _).mono ?_); rintro e1 W12 ⟨rfl, hb12⟩
      have hEn := (HB13.out.below hb12).be
      go_wp2_with fail
      go_ret
      exact ⟨rfl, hEn⟩
    · obtain rfl := hz hE
      unfold zeroI
      obtain ⟨RE, hRE⟩ : ∃ x, riE ext s = x := ⟨_, rfl⟩
      rw [hRE] at hE ⊢
      have t9 : (RE != 0) = true := by simpa using hE
      have HB10 := Lib.hid (show Bk w W9 [] from ⟨HB9.out, fun _ h => by cases h⟩)
      have HB11 := Lib.hid (HB10.out.new 82 #[.int .i64 0, .int .i64 0, .int .i64 0, .slice none 0 0, .slice none 0 0])
      clear hv hz hE hRE hb9 kri
      go_wp2_with fail
      (with_reducible refine (kaw _).mono ?_); rintro e1 W12 ⟨rfl, hb12⟩
      have hEn := (HB11.out.below hb12).be
      go_wp2_with fail
      go_ret
      exact ⟨rfl, hEn⟩

set_option maxHeartbeats 3200000 in
theorem one_place (d : Dc) (s : ByteArray) (ext : Int) (w : World) (h1 : ¬ 300 < d.body.size) (h2 : ¬ 5000 < s.size) (hp : plE d = 0) : Calls Try.prog 9 #[.agg #[.int .i64 d.tag, .string d.body], .string s, .int .i64 ext] w fun e w' => e = .returned (.bool true) ∧ Below w.heap.size w w' := by
  have hr : rdE d ≠ 0 := by
    unfold plE at hp; unfold rdE
    split at hp
    · omega
    · rw [if_pos (by omega)]; decide
  have ht : rtE d ≠ 0 := by
    unfold plE at hp; unfold rtE
    split at hp
    · omega
    · rw [if_pos (by omega)]; decide
  have t1 : decide (300 < (d.body.size : Int)) = false := by simp; omega
  have t2 : decide (5000 < (s.size : Int)) = false := by simp; omega
  have hS5 := Lib.hid (show s.size ≤ 5000 by omega)
  have kaw := fun V => awake_any V
  have kri := fun V => ri_any ext s V (by omega)
  have k7 := fun V => parse_any s V
  have k1 := fun V => read_any d V
  have k3 := fun V => rplace_any d V
  have k5 := fun V => rt_any d V (by omega)
  have hqd := fun V => eqD d d V
  rw [decide_eq_true rfl] at hqd
  have k4 := fun V => pmake_any (plR d) V
  rw [(pl_made hp).1, (pl_made hp).2] at k4
  rw [hp] at k3
  obtain ⟨X, hX⟩ : ∃ x, rdS d = x := ⟨_, rfl⟩
  obtain ⟨Y, hY⟩ : ∃ x, plR d = x := ⟨_, rfl⟩
  obtain ⟨E1, hE1⟩ : ∃ x, rdE d = x := ⟨_, rfl⟩
  obtain ⟨E5, hE5⟩ : ∃ x, rtE d = x := ⟨_, rfl⟩
  obtain ⟨RL, hRL⟩ : ∃ x, rtL d = x := ⟨_, rfl⟩
  rw [hX, hE1] at k1
  rw [hY] at k3 k4
  rw [hE5, hRL] at k5
  rw [hE1] at hr
  rw [hE5] at ht
  have q1 : (E1 == 0) = false := by simpa using hr
  have q5 : (E5 == 0) = false := by simpa using ht
  unfold Sl.vals at k1
  unfold Pl.vals at k3 k4
  have HB := Lib.hid (bk1 w 30 #[.int .i64 d.tag, .string d.body])
  clear hX hY hE1 hE5 hRL h1 h2 hr hp ht
  go_enter Try.func9, Try.ntmps9
  go_wp2_with fail
  (with_reducible refine (k1 _).mono ?_); rintro e1 W1 ⟨rfl, hb1⟩
  have HB1 := Lib.hid ((HB.out.below hb1).al (.cells #[.bool X.sl, .bool X.fec, .int .i64 X.rows, .int .i64 X.burst, .int .i64 X.rate, .int .i64 X.id, .string X.more] 23))
  have b0 := Blk.cell (HB1.out.nth 0 rfl) 0 (v := .int .i64 d.tag) rfl
  have b1 := Blk.cell (HB1.out.nth 0 rfl) 1 (v := .string d.body) rfl
  clear hb1 k1
  go_wp2_with fail
  (with_reducible refine (k3 _).mono ?_); rintro e1 W3 ⟨rfl, hb3⟩
  have HB3 := Lib.hid ((HB1.out.below hb3).new 26 #[.int .i64 Y.n, .int .i64 Y.o, .int .i64 Y.s, .int .i64 Y.v, .int .i64 Y.t])
  clear b0 b1
  have c0 := Blk.cell (HB3.out.nth 0 rfl) 0 (v := .int .i64 Y.n) rfl
  have c1 := Blk.cell (HB3.out.nth 0 rfl) 1 (v := .int .i64 Y.o) rfl
  have c2 := Blk.cell (HB3.out.nth 0 rfl) 2 (v := .int .i64 Y.s) rfl
  have c3 := Blk.cell (HB3.out.nth 0 rfl) 3 (v := .int .i64 Y.v) rfl
  have c4 := Blk.cell (HB3.out.nth 0 rfl) 4 (v := .int .i64 Y.t) rfl
  clear hb3 k3
  go_wp2_with fail
  (with_reducible refine (k4 _).mono ?_); rintro e1 W4 ⟨rfl, hb4⟩
  have HB4 := Lib.hid ((HB3.out.below hb4).new 30 #[.int .i64 d.tag, .string d.body])
  clear c0 c1 c2 c3 c4 hb4 k4
  have b0 := Blk.cell (HB4.out.nth 2 rfl) 0 (v := .int .i64 d.tag) rfl
  have b1 := Blk.cell (HB4.out.nth 2 rfl) 1 (v := .string d.body) rfl
  have c0 := Blk.cell (HB4.out.nth 0 rfl) 0 (v := .int .i64 d.tag) rfl
  have c1 := Blk.cell (HB4.out.nth 0 rfl) 1 (v := .string d.body) rfl
  go_wp2_with fail
  (with_reducible refine (k5 _).mono ?_); rintro e1 W5 ⟨a5, c5, rfl, hs5, hb5⟩
  have HBq := Lib.hid (HB4.out.below hb5).be
  clear k5 hb5 hs5 b0 b1 c0 c1
  go_wp2_with fail
  (with_reducible refine (k7 _).mono ?_); rintro e1 W7 ⟨a7, c7, rfl, hd7, hb7⟩
  by_cases hP : prsE s = 0
  · obtain ⟨m1, m2⟩ := prs_made hP
    rw [hP]
    have k8 := loop_at a7 c7 _ (prsL s) W7 rfl (by have := prsL_len s; omega) hd7
    rw [if_pos m1, m1, m2] at k8
    have HBo := Lib.hid (HBq.out.trans (hb7.mono HBq.out.size))
    clear hP m1 m2 hd7 hb7 k7
    go_wp2_with fail
    (with_reducible refine (k8).mono ?_); rintro e1 W8 ⟨rfl, hb8⟩
    have HBp := Lib.hid (HBo.out.trans (hb8.mono HBo.out.size))
    clear k8 hb8
    go_wp2_with fail
    (with_reducible refine (kri _).mono ?_); rintro e1 W9 ⟨⟨v, rfl, hz, hv⟩, hb9⟩
    have HB9 := Lib.hid (HBp.out.trans (hb9.mono HBp.out.size))
    by_cases hE : riE ext s = 0
    · obtain ⟨iv, ea, n, ec, PS, rfl, hn, hps, hse⟩ := hv hE
      obtain ⟨z1, z2, z3, z4⟩ := ri_zero hE
      obtain ⟨y1, y2⟩ := rdI_ok _ _ _ z1
      have hlen := hps.1
      rw [lvs_len, hn] at hlen
      have hn9 : n ≤ 100000 := by
        have hh : (riR s).2.length ≤ 0 + (s.size + 1) := y1
        have := hS5.out
        omega
      have isl := hps.sl (v := iv) (by simp [lvs])
      obtain ⟨ia, im, ic, rfl⟩ := isl
      have hbw := (Below.refl W9.heap.size W9).alloc (Nat.le_refl _) (.cells #[.int .i64 (ext / 256), .int .i64 (platOf s), .int .i64 (at' s 3), .slice ia im ic, .slice ea n ec] 82)
      have kb := body_any (ext / 256) (platOf s) (at' s 3) (.slice ia im ic) ea n ec PS (riR s).2 (W9.alloc (.cells #[.int .i64 (ext / 256), .int .i64 (platOf s), .int .i64 (at' s 3), .slice ia im ic, .slice ea n ec] 82)) hn hn9 (hps.below hbw) (fun L hL => by rcases y2 L hL with h | h; (cases h); omega) (hse.below (Nat.le_refl _) hbw)
      have ke := fun V => ext_any (ext / 256) (platOf s) (at' s 3) (.slice ia im ic) (.slice ea n ec) V ⟨ia, im, ic, rfl⟩ ⟨ea, n, ec, rfl⟩
      rw [z2, z3] at kb
      rw [z4] at ke
      rw [hE]
      have HB10 := Lib.hid (show Bk w W9 [] from ⟨HB9.out, fun _ h => by cases h⟩)
      have HB11 := Lib.hid (HB10.out.new 82 #[.int .i64 (ext / 256), .int .i64 (platOf s), .int .i64 (at' s 3), .slice ia im ic, .slice ea n ec])
      have c0 := Blk.cell (HB11.out.nth 0 rfl) 0 (v := .int .i64 (ext / 256)) rfl
      have c1 := Blk.cell (HB11.out.nth 0 rfl) 1 (v := .int .i64 (platOf s)) rfl
      have c2 := Blk.cell (HB11.out.nth 0 rfl) 2 (v := .int .i64 (at' s 3)) rfl
      have c3 := Blk.cell (HB11.out.nth 0 rfl) 3 (v := .slice ia im ic) rfl
      have c4 := Blk.cell (HB11.out.nth 0 rfl) 4 (v := .slice ea n ec) rfl
      clear hz hv hE z1 z2 z3 z4 y1 y2 hlen hn hps hse hb9 hbw kri
      go_wp2_with fail
      (with_reducible refine (kb).mono ?_); rintro e1 W10 ⟨rfl, hb10⟩
      have HB12 := Lib.hid (HB11.out.below hb10)
      clear c0 c1 c2 c3 c4
      have c0 := Blk.cell (HB12.out.nth 0 rfl) 0 (v := .int .i64 (ext / 256)) rfl
      have c1 := Blk.cell (HB12.out.nth 0 rfl) 1 (v := .int .i64 (platOf s)) rfl
      have c2 := Blk.cell (HB12.out.nth 0 rfl) 2 (v := .int .i64 (at' s 3)) rfl
      have c3 := Blk.cell (HB12.out.nth 0 rfl) 3 (v := .slice ia im ic) rfl
      have c4 := Blk.cell (HB12.out.nth 0 rfl) 4 (v := .slice ea n ec) rfl
      clear kb hb10
      go_wp2_with fail
      (with_reducible refine (ke _).mono ?_); rintro e1 W11 ⟨rfl, hb11⟩
      have HB13 := Lib.hid (HB12.out.below hb11)
      clear ke hb11 c0 c1 c2 c3 c4
      go_wp2_with fail
      (with_reducible refine (kaw _).mono ?_); rintro e1 W12 ⟨rfl, hb12⟩
      have hEn := (HB13.out.below hb12).be
      go_wp2_with fail
      go_ret
      exact ⟨rfl, hEn⟩
    · obtain rfl := hz hE
      unfold zeroI
      obtain ⟨RE, hRE⟩ : ∃ x, riE ext s = x := ⟨_, rfl⟩
      rw [hRE] at hE ⊢
      have t9 : (RE != 0) = true := by simpa using hE
      have HB10 := Lib.hid (show Bk w W9 [] from ⟨HB9.out, fun _ h => by cases h⟩)
      have HB11 := Lib.hid (HB10.out.new 82 #[.int .i64 0, .int .i64 0, .int .i64 0, .slice none 0 0, .slice none 0 0])
      clear hv hz hE hRE hb9 kri
      go_wp2_with fail
      (with_reducible refine (kaw _).mono ?_); rintro e1 W12 ⟨rfl, hb12⟩
      have hEn := (HB11.out.below hb12).be
      go_wp2_with fail
      go_ret
      exact ⟨rfl, hEn⟩
  · obtain ⟨PE, hPE⟩ : ∃ x, prsE s = x := ⟨_, rfl⟩
    rw [hPE] at hP ⊢
    have t8 : (PE == 0) = false := by simpa using hP
    have HBp := Lib.hid (HBq.out.trans (hb7.mono HBq.out.size))
    clear hP hPE hd7 hb7 k7
    go_wp2_with fail
    (with_reducible refine (kri _).mono ?_); rintro e1 W9 ⟨⟨v, rfl, hz, hv⟩, hb9⟩
    have HB9 := Lib.hid (HBp.out.trans (hb9.mono HBp.out.size))
    by_cases hE : riE ext s = 0
    · obtain ⟨iv, ea, n, ec, PS, rfl, hn, hps, hse⟩ := hv hE
      obtain ⟨z1, z2, z3, z4⟩ := ri_zero hE
      obtain ⟨y1, y2⟩ := rdI_ok _ _ _ z1
      have hlen := hps.1
      rw [lvs_len, hn] at hlen
      have hn9 : n ≤ 100000 := by
        have hh : (riR s).2.length ≤ 0 + (s.size + 1) := y1
        have := hS5.out
        omega
      have isl := hps.sl (v := iv) (by simp [lvs])
      obtain ⟨ia, im, ic, rfl⟩ := isl
      have hbw := (Below.refl W9.heap.size W9).alloc (Nat.le_refl _) (.cells #[.int .i64 (ext / 256), .int .i64 (platOf s), .int .i64 (at' s 3), .slice ia im ic, .slice ea n ec] 82)
      have kb := body_any (ext / 256) (platOf s) (at' s 3) (.slice ia im ic) ea n ec PS (riR s).2 (W9.alloc (.cells #[.int .i64 (ext / 256), .int .i64 (platOf s), .int .i64 (at' s 3), .slice ia im ic, .slice ea n ec] 82)) hn hn9 (hps.below hbw) (fun L hL => by rcases y2 L hL with h | h; (cases h); omega) (hse.below (Nat.le_refl _) hbw)
      have ke := fun V => ext_any (ext / 256) (platOf s) (at' s 3) (.slice ia im ic) (.slice ea n ec) V ⟨ia, im, ic, rfl⟩ ⟨ea, n, ec, rfl⟩
      rw [z2, z3] at kb
      rw [z4] at ke
      rw [hE]
      have HB10 := Lib.hid (show Bk w W9 [] from ⟨HB9.out, fun _ h => by cases h⟩)
      have HB11 := Lib.hid (HB10.out.new 82 #[.int .i64 (ext / 256), .int .i64 (platOf s), .int .i64 (at' s 3), .slice ia im ic, .slice ea n ec])
      have c0 := Blk.cell (HB11.out.nth 0 rfl) 0 (v := .int .i64 (ext / 256)) rfl
      have c1 := Blk.cell (HB11.out.nth 0 rfl) 1 (v := .int .i64 (platOf s)) rfl
      have c2 := Blk.cell (HB11.out.nth 0 rfl) 2 (v := .int .i64 (at' s 3)) rfl
      have c3 := Blk.cell (HB11.out.nth 0 rfl) 3 (v := .slice ia im ic) rfl
      have c4 := Blk.cell (HB11.out.nth 0 rfl) 4 (v := .slice ea n ec) rfl
      clear hz hv hE z1 z2 z3 z4 y1 y2 hlen hn hps hse hb9 hbw kri
      go_wp2_with fail
      (with_reducible refine (kb).mono ?_); rintro e1 W10 ⟨rfl, hb10⟩
      have HB12 := Lib.hid (HB11.out.below hb10)
      clear c0 c1 c2 c3 c4
      have c0 := Blk.cell (HB12.out.nth 0 rfl) 0 (v := .int .i64 (ext / 256)) rfl
      have c1 := Blk.cell (HB12.out.nth 0 rfl) 1 (v := .int .i64 (platOf s)) rfl
      have c2 := Blk.cell (HB12.out.nth 0 rfl) 2 (v := .int .i64 (at' s 3)) rfl
      have c3 := Blk.cell (HB12.out.nth 0 rfl) 3 (v := .slice ia im ic) rfl
      have c4 := Blk.cell (HB12.out.nth 0 rfl) 4 (v := .slice ea n ec) rfl
      clear kb hb10
      go_wp2_with fail
      (with_reducible refine (ke _).mono ?_); rintro e1 W11 ⟨rfl, hb11⟩
      have HB13 := Lib.hid (HB12.out.below hb11)
      clear ke hb11 c0 c1 c2 c3 c4
      go_wp2_with fail
      (with_reducible refine (kaw _).mono ?_); rintro e1 W12 ⟨rfl, hb12⟩
      have hEn := (HB13.out.below hb12).be
      go_wp2_with fail
      go_ret
      exact ⟨rfl, hEn⟩
    · obtain rfl := hz hE
      unfold zeroI
      obtain ⟨RE, hRE⟩ : ∃ x, riE ext s = x := ⟨_, rfl⟩
      rw [hRE] at hE ⊢
      have t9 : (RE != 0) = true := by simpa using hE
      have HB10 := Lib.hid (show Bk w W9 [] from ⟨HB9.out, fun _ h => by cases h⟩)
      have HB11 := Lib.hid (HB10.out.new 82 #[.int .i64 0, .int .i64 0, .int .i64 0, .slice none 0 0, .slice none 0 0])
      clear hv hz hE hRE hb9 kri
      go_wp2_with fail
      (with_reducible refine (kaw _).mono ?_); rintro e1 W12 ⟨rfl, hb12⟩
      have hEn := (HB11.out.below hb12).be
      go_wp2_with fail
      go_ret
      exact ⟨rfl, hEn⟩

set_option maxHeartbeats 3200000 in
theorem one_tgt (d : Dc) (s : ByteArray) (ext : Int) (w : World) (h1 : ¬ 300 < d.body.size) (h2 : ¬ 5000 < s.size) (ht : rtE d = 0) : Calls Try.prog 9 #[.agg #[.int .i64 d.tag, .string d.body], .string s, .int .i64 ext] w fun e w' => e = .returned (.bool true) ∧ Below w.heap.size w w' := by
  have hg : d.tag = 15 ∧ d.body.size % 5 = 0 := by
    unfold rtE at ht
    split at ht
    · omega
    · split at ht
      · omega
      · omega
  have hr : rdE d ≠ 0 := by unfold rdE; rw [if_pos (by omega)]; decide
  have hp : plE d ≠ 0 := by unfold plE; rw [if_pos (by omega)]; decide
  have t1 : decide (300 < (d.body.size : Int)) = false := by simp; omega
  have t2 : decide (5000 < (s.size : Int)) = false := by simp; omega
  have hS5 := Lib.hid (show s.size ≤ 5000 by omega)
  have kaw := fun V => awake_any V
  have kri := fun V => ri_any ext s V (by omega)
  have k7 := fun V => parse_any s V
  have k1 := fun V => read_any d V
  have k3 := fun V => rplace_any d V
  have k5 := fun V => rt_any d V (by omega)
  have hqd := fun V => eqD d d V
  rw [decide_eq_true rfl] at hqd
  have hRT : rtL d = tgN d.body (d.body.size / 5) := by unfold rtL; rw [if_pos ht]
  have k6 := fun (a : Option Addr) (c : Nat) V (h : Seq enT 5 V a (rtL d)) => targets_any a c (rtL d).length (rtL d) V rfl (by rw [hRT, tgN_len]; omega) h
  have hgd := (rt_good d hg.1 hg.2).1 ht
  rw [← hRT] at hgd
  rw [hgd.1, hgd.2] at k6
  rw [ht] at k5
  obtain ⟨X, hX⟩ : ∃ x, rdS d = x := ⟨_, rfl⟩
  obtain ⟨Y, hY⟩ : ∃ x, plR d = x := ⟨_, rfl⟩
  obtain ⟨E1, hE1⟩ : ∃ x, rdE d = x := ⟨_, rfl⟩
  obtain ⟨E3, hE3⟩ : ∃ x, plE d = x := ⟨_, rfl⟩
  rw [hX, hE1] at k1
  rw [hY, hE3] at k3
  rw [hE1] at hr
  rw [hE3] at hp
  have q1 : (E1 == 0) = false := by simpa using hr
  have q3 : (E3 == 0) = false := by simpa using hp
  clear hgd hRT
  obtain ⟨RL, hRL⟩ : ∃ x, rtL d = x := ⟨_, rfl⟩
  rw [hRL] at k5 k6
  unfold Sl.vals at k1
  unfold Pl.vals at k3
  have HB := Lib.hid (bk1 w 30 #[.int .i64 d.tag, .string d.body])
  clear hX hY hE1 hE3 hRL h1 h2 hr hp ht hg
  go_enter Try.func9, Try.ntmps9
  go_wp2_with fail
  (with_reducible refine (k1 _).mono ?_); rintro e1 W1 ⟨rfl, hb1⟩
  have HB1 := Lib.hid ((HB.out.below hb1).al (.cells #[.bool X.sl, .bool X.fec, .int .i64 X.rows, .int .i64 X.burst, .int .i64 X.rate, .int .i64 X.id, .string X.more] 23))
  have b0 := Blk.cell (HB1.out.nth 0 rfl) 0 (v := .int .i64 d.tag) rfl
  have b1 := Blk.cell (HB1.out.nth 0 rfl) 1 (v := .string d.body) rfl
  clear hb1 k1
  go_wp2_with fail
  (with_reducible refine (k3 _).mono ?_); rintro e1 W3 ⟨rfl, hb3⟩
  have HB3 := Lib.hid ((HB1.out.below hb3).al (.cells #[.int .i64 Y.n, .int .i64 Y.o, .int .i64 Y.s, .int .i64 Y.v, .int .i64 Y.t] 26))
  clear b0 b1
  have b0 := Blk.cell (HB3.out.nth 0 rfl) 0 (v := .int .i64 d.tag) rfl
  have b1 := Blk.cell (HB3.out.nth 0 rfl) 1 (v := .string d.body) rfl
  clear hb3 k3
  go_wp2_with fail
  (with_reducible refine (k5 _).mono ?_); rintro e1 W5 ⟨a5, c5, rfl, hs5, hb5⟩
  have HB5 := Lib.hid (HB3.out.below hb5)
  clear k5 hb5 b0 b1
  go_wp2_with fail
  (with_reducible refine (k6 _ _ _ hs5).mono ?_); rintro e1 W6 ⟨rfl, hb6⟩
  have HB6 := Lib.hid ((HB5.out.below hb6).new 30 #[.int .i64 d.tag, .string d.body])
  clear k6 hb6 hs5
  have b0 := Blk.cell (HB6.out.nth 1 rfl) 0 (v := .int .i64 d.tag) rfl
  have b1 := Blk.cell (HB6.out.nth 1 rfl) 1 (v := .string d.body) rfl
  have c0 := Blk.cell (HB6.out.nth 0 rfl) 0 (v := .int .i64 d.tag) rfl
  have c1 := Blk.cell (HB6.out.nth 0 rfl) 1 (v := .string d.body) rfl
  have HBq := Lib.hid HB6.out.be
  go_wp2_with fail
  clear b0 b1 c0 c1
  (with_reducible refine (k7 _).mono ?_); rintro e1 W7 ⟨a7, c7, rfl, hd7, hb7⟩
  by_cases hP : prsE s = 0
  · obtain ⟨m1, m2⟩ := prs_made hP
    rw [hP]
    have k8 := loop_at a7 c7 _ (prsL s) W7 rfl (by have := prsL_len s; omega) hd7
    rw [if_pos m1, m1, m2] at k8
    have HBo := Lib.hid (HBq.out.trans (hb7.mono HBq.out.size))
    clear hP m1 m2 hd7 hb7 k7
    go_wp2_with fail
    (with_reducible refine (k8).mono ?_); rintro e1 W8 ⟨rfl, hb8⟩
    have HBp := Lib.hid (HBo.out.trans (hb8.mono HBo.out.size))
    clear k8 hb8
    go_wp2_with fail
    (with_reducible refine (kri _).mono ?_); rintro e1 W9 ⟨⟨v, rfl, hz, hv⟩, hb9⟩
    have HB9 := Lib.hid (HBp.out.trans (hb9.mono HBp.out.size))
    by_cases hE : riE ext s = 0
    · obtain ⟨iv, ea, n, ec, PS, rfl, hn, hps, hse⟩ := hv hE
      obtain ⟨z1, z2, z3, z4⟩ := ri_zero hE
      obtain ⟨y1, y2⟩ := rdI_ok _ _ _ z1
      have hlen := hps.1
      rw [lvs_len, hn] at hlen
      have hn9 : n ≤ 100000 := by
        have hh : (riR s).2.length ≤ 0 + (s.size + 1) := y1
        have := hS5.out
        omega
      have isl := hps.sl (v := iv) (by simp [lvs])
      obtain ⟨ia, im, ic, rfl⟩ := isl
      have hbw := (Below.refl W9.heap.size W9).alloc (Nat.le_refl _) (.cells #[.int .i64 (ext / 256), .int .i64 (platOf s), .int .i64 (at' s 3), .slice ia im ic, .slice ea n ec] 82)
      have kb := body_any (ext / 256) (platOf s) (at' s 3) (.slice ia im ic) ea n ec PS (riR s).2 (W9.alloc (.cells #[.int .i64 (ext / 256), .int .i64 (platOf s), .int .i64 (at' s 3), .slice ia im ic, .slice ea n ec] 82)) hn hn9 (hps.below hbw) (fun L hL => by rcases y2 L hL with h | h; (cases h); omega) (hse.below (Nat.le_refl _) hbw)
      have ke := fun V => ext_any (ext / 256) (platOf s) (at' s 3) (.slice ia im ic) (.slice ea n ec) V ⟨ia, im, ic, rfl⟩ ⟨ea, n, ec, rfl⟩
      rw [z2, z3] at kb
      rw [z4] at ke
      rw [hE]
      have HB10 := Lib.hid (show Bk w W9 [] from ⟨HB9.out, fun _ h => by cases h⟩)
      have HB11 := Lib.hid (HB10.out.new 82 #[.int .i64 (ext / 256), .int .i64 (platOf s), .int .i64 (at' s 3), .slice ia im ic, .slice ea n ec])
      have c0 := Blk.cell (HB11.out.nth 0 rfl) 0 (v := .int .i64 (ext / 256)) rfl
      have c1 := Blk.cell (HB11.out.nth 0 rfl) 1 (v := .int .i64 (platOf s)) rfl
      have c2 := Blk.cell (HB11.out.nth 0 rfl) 2 (v := .int .i64 (at' s 3)) rfl
      have c3 := Blk.cell (HB11.out.nth 0 rfl) 3 (v := .slice ia im ic) rfl
      have c4 := Blk.cell (HB11.out.nth 0 rfl) 4 (v := .slice ea n ec) rfl
      clear hz hv hE z1 z2 z3 z4 y1 y2 hlen hn hps hse hb9 hbw kri
      go_wp2_with fail
      (with_reducible refine (kb).mono ?_); rintro e1 W10 ⟨rfl, hb10⟩
      have HB12 := Lib.hid (HB11.out.below hb10)
      clear c0 c1 c2 c3 c4
      have c0 := Blk.cell (HB12.out.nth 0 rfl) 0 (v := .int .i64 (ext / 256)) rfl
      have c1 := Blk.cell (HB12.out.nth 0 rfl) 1 (v := .int .i64 (platOf s)) rfl
      have c2 := Blk.cell (HB12.out.nth 0 rfl) 2 (v := .int .i64 (at' s 3)) rfl
      have c3 := Blk.cell (HB12.out.nth 0 rfl) 3 (v := .slice ia im ic) rfl
      have c4 := Blk.cell (HB12.out.nth 0 rfl) 4 (v := .slice ea n ec) rfl
      clear kb hb10
      go_wp2_with fail
      (with_reducible refine (ke _).mono ?_); rintro e1 W11 ⟨rfl, hb11⟩
      have HB13 := Lib.hid (HB12.out.below hb11)
      clear ke hb11 c0 c1 c2 c3 c4
      go_wp2_with fail
      (with_reducible refine (kaw _).mono ?_); rintro e1 W12 ⟨rfl, hb12⟩
      have hEn := (HB13.out.below hb12).be
      go_wp2_with fail
      go_ret
      exact ⟨rfl, hEn⟩
    · obtain rfl := hz hE
      unfold zeroI
      obtain ⟨RE, hRE⟩ : ∃ x, riE ext s = x := ⟨_, rfl⟩
      rw [hRE] at hE ⊢
      have t9 : (RE != 0) = true := by simpa using hE
      have HB10 := Lib.hid (show Bk w W9 [] from ⟨HB9.out, fun _ h => by cases h⟩)
      have HB11 := Lib.hid (HB10.out.new 82 #[.int .i64 0, .int .i64 0, .int .i64 0, .slice none 0 0, .slice none 0 0])
      clear hv hz hE hRE hb9 kri
      go_wp2_with fail
      (with_reducible refine (kaw _).mono ?_); rintro e1 W12 ⟨rfl, hb12⟩
      have hEn := (HB11.out.below hb12).be
      go_wp2_with fail
      go_ret
      exact ⟨rfl, hEn⟩
  · obtain ⟨PE, hPE⟩ : ∃ x, prsE s = x := ⟨_, rfl⟩
    rw [hPE] at hP ⊢
    have t8 : (PE == 0) = false := by simpa using hP
    have HBp := Lib.hid (HBq.out.trans (hb7.mono HBq.out.size))
    clear hP hPE hd7 hb7 k7
    go_wp2_with fail
    (with_reducible refine (kri _).mono ?_); rintro e1 W9 ⟨⟨v, rfl, hz, hv⟩, hb9⟩
    have HB9 := Lib.hid (HBp.out.trans (hb9.mono HBp.out.size))
    by_cases hE : riE ext s = 0
    · obtain ⟨iv, ea, n, ec, PS, rfl, hn, hps, hse⟩ := hv hE
      obtain ⟨z1, z2, z3, z4⟩ := ri_zero hE
      obtain ⟨y1, y2⟩ := rdI_ok _ _ _ z1
      have hlen := hps.1
      rw [lvs_len, hn] at hlen
      have hn9 : n ≤ 100000 := by
        have hh : (riR s).2.length ≤ 0 + (s.size + 1) := y1
        have := hS5.out
        omega
      have isl := hps.sl (v := iv) (by simp [lvs])
      obtain ⟨ia, im, ic, rfl⟩ := isl
      have hbw := (Below.refl W9.heap.size W9).alloc (Nat.le_refl _) (.cells #[.int .i64 (ext / 256), .int .i64 (platOf s), .int .i64 (at' s 3), .slice ia im ic, .slice ea n ec] 82)
      have kb := body_any (ext / 256) (platOf s) (at' s 3) (.slice ia im ic) ea n ec PS (riR s).2 (W9.alloc (.cells #[.int .i64 (ext / 256), .int .i64 (platOf s), .int .i64 (at' s 3), .slice ia im ic, .slice ea n ec] 82)) hn hn9 (hps.below hbw) (fun L hL => by rcases y2 L hL with h | h; (cases h); omega) (hse.below (Nat.le_refl _) hbw)
      have ke := fun V => ext_any (ext / 256) (platOf s) (at' s 3) (.slice ia im ic) (.slice ea n ec) V ⟨ia, im, ic, rfl⟩ ⟨ea, n, ec, rfl⟩
      rw [z2, z3] at kb
      rw [z4] at ke
      rw [hE]
      have HB10 := Lib.hid (show Bk w W9 [] from ⟨HB9.out, fun _ h => by cases h⟩)
      have HB11 := Lib.hid (HB10.out.new 82 #[.int .i64 (ext / 256), .int .i64 (platOf s), .int .i64 (at' s 3), .slice ia im ic, .slice ea n ec])
      have c0 := Blk.cell (HB11.out.nth 0 rfl) 0 (v := .int .i64 (ext / 256)) rfl
      have c1 := Blk.cell (HB11.out.nth 0 rfl) 1 (v := .int .i64 (platOf s)) rfl
      have c2 := Blk.cell (HB11.out.nth 0 rfl) 2 (v := .int .i64 (at' s 3)) rfl
      have c3 := Blk.cell (HB11.out.nth 0 rfl) 3 (v := .slice ia im ic) rfl
      have c4 := Blk.cell (HB11.out.nth 0 rfl) 4 (v := .slice ea n ec) rfl
      clear hz hv hE z1 z2 z3 z4 y1 y2 hlen hn hps hse hb9 hbw kri
      go_wp2_with fail
      (with_reducible refine (kb).mono ?_); rintro e1 W10 ⟨rfl, hb10⟩
      have HB12 := Lib.hid (HB11.out.below hb10)
      clear c0 c1 c2 c3 c4
      have c0 := Blk.cell (HB12.out.nth 0 rfl) 0 (v := .int .i64 (ext / 256)) rfl
      have c1 := Blk.cell (HB12.out.nth 0 rfl) 1 (v := .int .i64 (platOf s)) rfl
      have c2 := Blk.cell (HB12.out.nth 0 rfl) 2 (v := .int .i64 (at' s 3)) rfl
      have c3 := Blk.cell (HB12.out.nth 0 rfl) 3 (v := .slice ia im ic) rfl
      have c4 := Blk.cell (HB12.out.nth 0 rfl) 4 (v := .slice ea n ec) rfl
      clear kb hb10
      go_wp2_with fail
      (with_reducible refine (ke _).mono ?_); rintro e1 W11 ⟨rfl, hb11⟩
      have HB13 := Lib.hid (HB12.out.below hb11)
      clear ke hb11 c0 c1 c2 c3 c4
      go_wp2_with fail
      (with_reducible refine (kaw _).mono ?_); rintro e1 W12 ⟨rfl, hb12⟩
      have hEn := (HB13.out.below hb12).be
      go_wp2_with fail
      go_ret
      exact ⟨rfl, hEn⟩
    · obtain rfl := hz hE
      unfold zeroI
      obtain ⟨RE, hRE⟩ : ∃ x, riE ext s = x := ⟨_, rfl⟩
      rw [hRE] at hE ⊢
      have t9 : (RE != 0) = true := by simpa using hE
      have HB10 := Lib.hid (show Bk w W9 [] from ⟨HB9.out, fun _ h => by cases h⟩)
      have HB11 := Lib.hid (HB10.out.new 82 #[.int .i64 0, .int .i64 0, .int .i64 0, .slice none 0 0, .slice none 0 0])
      clear hv hz hE hRE hb9 kri
      go_wp2_with fail
      (with_reducible refine (kaw _).mono ?_); rintro e1 W12 ⟨rfl, hb12⟩
      have hEn := (HB11.out.below hb12).be
      go_wp2_with fail
      go_ret
      exact ⟨rfl, hEn⟩

set_option maxHeartbeats 1600000 in
theorem one_any (d : Dc) (s : ByteArray) (ext : Int) (w : World) : Calls Try.prog 9 #[.agg #[.int .i64 d.tag, .string d.body], .string s, .int .i64 ext] w fun e w' => e = .returned (.bool true) ∧ Below w.heap.size w w' := by
  by_cases h1 : 300 < d.body.size
  · have t1 : decide (300 < (d.body.size : Int)) = true := by simp; omega
    have kaw := fun V => awake_any V
    have HB := Lib.hid (bk1 w 30 #[.int .i64 d.tag, .string d.body])
    clear h1
    go_enter Try.func9, Try.ntmps9
    go_wp2_with fail
    (with_reducible refine (kaw _).mono ?_); rintro e1 W1 ⟨rfl, hb1⟩
    have hE := (HB.out.below hb1).be
    go_wp2_with fail
    go_ret
    exact ⟨rfl, hE⟩
  by_cases h2 : 5000 < s.size
  · have t1 : decide (300 < (d.body.size : Int)) = false := by simp; omega
    have t2 : decide (5000 < (s.size : Int)) = true := by simp; omega
    have kaw := fun V => awake_any V
    have HB := Lib.hid (bk1 w 30 #[.int .i64 d.tag, .string d.body])
    clear h1 h2
    go_enter Try.func9, Try.ntmps9
    go_wp2_with fail
    (with_reducible refine (kaw _).mono ?_); rintro e1 W1 ⟨rfl, hb1⟩
    have hE := (HB.out.below hb1).be
    go_wp2_with fail
    go_ret
    exact ⟨rfl, hE⟩
  by_cases hr : rdE d = 0
  · exact one_slice d s ext w h1 h2 hr
  by_cases hp : plE d = 0
  · exact one_place d s ext w h1 h2 hp
  by_cases ht : rtE d = 0
  · exact one_tgt d s ext w h1 h2 ht
  exact one_none d s ext w h1 h2 hr hp ht
end Go.Proofs.Ytbceakdifklocaa.DvO
