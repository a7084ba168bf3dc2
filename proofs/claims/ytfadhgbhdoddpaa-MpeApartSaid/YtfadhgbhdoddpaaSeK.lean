/- section: Decode, of bytes that open. -/
import Derived.Test.YtfadhgbhdoddpaaSeJ
namespace Go.Proofs.Ytfadhgbhdoddpaa.SeK
open Go Go.RowKit Go.Proofs.Ytfadhgbhdoddpaa.Q Go.Proofs.Ytfadhgbhdoddpaa.Mem Go.Proofs.Ytfadhgbhdoddpaa.Rg Go.Proofs.Ytfadhgbhdoddpaa.Ap Go.Proofs.Ytfadhgbhdoddpaa.St Go.Proofs.Ytfadhgbhdoddpaa.BiP Go.Proofs.Ytfadhgbhdoddpaa.BiA Go.Proofs.Ytfadhgbhdoddpaa.BiG Go.Proofs.Ytfadhgbhdoddpaa.BiH Go.Proofs.Ytfadhgbhdoddpaa.CrC Go.Proofs.Ytfadhgbhdoddpaa.CrD Go.Proofs.Ytfadhgbhdoddpaa.SeA Go.Proofs.Ytfadhgbhdoddpaa.SeC Go.Proofs.Ytfadhgbhdoddpaa.SeG Go.Proofs.Ytfadhgbhdoddpaa.SeEq Go.Proofs.Ytfadhgbhdoddpaa.SeH Go.Proofs.Ytfadhgbhdoddpaa.SeI Go.Proofs.Ytfadhgbhdoddpaa.SeJ

/-- the fields, as the reader tells them -/
theorem fields (u : ByteArray) : gb u 0 8 = at0 u 0 ∧ gb u 9 1 = at0 u 1 / 64 % 2 ∧ gb u 24 16 = at0 u 3 * 256 + at0 u 4 ∧ gb u 40 2 = at0 u 5 / 64 ∧ gb u 42 5 = at0 u 5 / 2 % 32 ∧ gb u 47 1 = at0 u 5 % 2 ∧ gb u 48 8 = at0 u 6 ∧ gb u 56 8 = at0 u 7 := by
  have l5 := at0_lt u 5
  refine ⟨gb_byte u 0, ?_, ?_, ?_, ?_, ?_, gb_byte u 6, gb_byte u 7⟩
  · have := gb_in u 1 1 1 (by omega); simpa using this
  · have h := gb_split u 24 8 8
    have h1 := gb_byte u 3
    have h2 := gb_byte u 4
    simp only [Nat.reduceMul, Nat.reduceAdd, Nat.reducePow] at h h1 h2
    rw [h, h1, h2]
  · have := gb_in u 5 0 2 (by omega); simp at this; rw [this]; omega
  · have := gb_in u 5 2 5 (by omega); simpa using this
  · have := gb_in u 5 7 1 (by omega); simpa using this
set_option maxRecDepth 100000
set_option maxHeartbeats 3200000 in
theorem dec_ok (t : ByteArray) (w : World) (hs : t.size ≤ 1099511627776) (h1 : needE t = 0) (hq : t.size = needN t) (h4 : openE t = 0) : Calls Try.prog 31 #[.string t] w fun e w' => e = .returned (.tuple #[.agg (decS t).vals, .int .i64 (decE t)]) ∧ Below w.heap.size w w' := by
  have HB := Lib.hid (bk1 w 57 #[.int .i64 0, .bool false, .int .i64 0, .int .i64 0, .bool false, .int .i64 0, .int .i64 0, .string nob])
  have kn := fun V => need_any t V hs
  obtain ⟨g1, g2⟩ := need_le h1
  rw [h1] at kn
  obtain ⟨N, hN⟩ : ∃ N, needN t = N := ⟨_, rfl⟩
  rw [hN] at kn hq g1 g2
  have ko := fun V => open_any t V hs
  rw [h4] at ko
  have hu := open_size h4 (by omega)
  have hE5 : decE t = if fBad (openS t) then 12 else 0 := by unfold decE; rw [if_neg (by simpa using h1), if_neg (by rw [hN]; omega), if_neg (by rw [hN]; omega), if_neg (by simpa using h4)]
  have hS5 : decS t = if decE t = 0 then rdS (openS t) else zeroS := rfl
  obtain ⟨u, hue⟩ : ∃ u, openS t = u := ⟨_, rfl⟩
  rw [hue] at ko hu hE5 hS5
  have t2 : decide (t.size < N) = false := by simp; omega
  have t3 : decide (N < t.size) = false := by simp; omega
  have hu8 : 8 ≤ u.size := by omega
  have hu9 : u.size ≤ 4092 := by omega
  have hus : u.size ≤ 1099511627776 := by omega
  obtain ⟨f0, f1, f2, f3, f4, f5, f6, f7⟩ := fields u
  have hR : rdS u = ⟨(at0 u 0 : Nat), decide (at0 u 1 / 64 % 2 = 1), (at0 u 3 * 256 + at0 u 4 : Nat), (at0 u 5 / 2 % 32 : Nat), decide (at0 u 5 % 2 = 1), (at0 u 6 : Nat), (at0 u 7 : Nat), u.extract 8 u.size⟩ := rfl
  have hF : fBad u ↔ (at0 u 5 / 64 ≠ 3 ∨ at0 u 7 < at0 u 6) := Iff.rfl
  have l0 := at0_lt u 0
  have l3 := at0_lt u 3
  have l4 := at0_lt u 4
  have l6 := at0_lt u 6
  have l7 := at0_lt u 7
  have m2 : at0 u 3 * 256 + at0 u 4 ≤ 65535 := by omega
  have m4 : at0 u 5 / 2 % 32 ≤ 31 := by omega
  obtain ⟨a, ea⟩ : ∃ x, at0 u 0 = x := ⟨_, rfl⟩
  obtain ⟨p, ep⟩ : ∃ x, at0 u 1 / 64 % 2 = x := ⟨_, rfl⟩
  obtain ⟨e, ee⟩ : ∃ x, at0 u 3 * 256 + at0 u 4 = x := ⟨_, rfl⟩
  obtain ⟨r, er⟩ : ∃ x, at0 u 5 / 64 = x := ⟨_, rfl⟩
  obtain ⟨v, ev⟩ : ∃ x, at0 u 5 / 2 % 32 = x := ⟨_, rfl⟩
  obtain ⟨q, eq⟩ : ∃ x, at0 u 5 % 2 = x := ⟨_, rfl⟩
  obtain ⟨m, em⟩ : ∃ x, at0 u 6 = x := ⟨_, rfl⟩
  obtain ⟨l, el⟩ : ∃ x, at0 u 7 = x := ⟨_, rfl⟩
  rw [ea] at f0 hR l0
  rw [ep] at f1 hR
  rw [ee] at f2 hR m2
  rw [er] at f3 hF
  rw [ev] at f4 hR m4
  rw [eq] at f5 hR
  rw [em] at f6 hR hF l6
  rw [el] at f7 hR hF l7
  have F0 := Lib.hid f0
  have F1 := Lib.hid f1
  have F2 := Lib.hid f2
  have F3 := Lib.hid f3
  have F4 := Lib.hid f4
  have F5 := Lib.hid f5
  have F6 := Lib.hid f6
  have F7 := Lib.hid f7
  have q0 := wrap63 a (by omega)
  have q2 := wrap63 e (by omega)
  have q4 := wrap63 v (by omega)
  have q6 := wrap63 m (by omega)
  have q7 := wrap63 l (by omega)
  have hb1 : ((p : Int) == 1) = decide (p = 1) := by by_cases hx : p = 1 <;> simp [hx] <;> omega
  have hb2 : ((q : Int) == 1) = decide (q = 1) := by by_cases hx : q = 1 <;> simp [hx] <;> omega
  obtain ⟨b1, eb1⟩ : ∃ x, decide (p = 1) = x := ⟨_, rfl⟩
  obtain ⟨b2, eb2⟩ : ∃ x, decide (q = 1) = x := ⟨_, rfl⟩
  rw [eb1] at hb1 hR
  rw [eb2] at hb2 hR
  have hchk : Sc.chk ⟨(a : Int), b1, (e : Int), (v : Int), b2, (m : Int), (l : Int), u.extract 8 u.size⟩ = if l < m then 15 else 0 := by
    by_cases hlm : l < m
    · rw [if_pos hlm]; exact chk_no (by unfold Sc.ok; dsimp only; omega)
    · rw [if_neg hlm]; exact chk_ok (by unfold Sc.ok; dsimp only; omega) (by dsimp only; rw [ByteArray.size_extract]; omega)
  have kc := fun V => check_any ⟨(a : Int), b1, (e : Int), (v : Int), b2, (m : Int), (l : Int), u.extract 8 u.size⟩ V
  rw [hchk] at kc
  unfold Sc.vals at kc
  dsimp only at kc
  have HR := Lib.hid hR
  have HF := Lib.hid hF
  have HE5 := Lib.hid hE5
  have HS5 := Lib.hid hS5
  have kg := fun (W : World) (g a n : Nat) (L : List (Nat × TypeId × Array Value)) (h : Bk w W ((g, 118, inC a u) :: L)) hg hL h1 h2 => get_bk (n := n) h hg hL hus h1 h2
  have HK := Lib.hid kg
  have HU := Lib.hid hus
  have k0 := fun V => read_any u V
  clear kg h1 h4 hN hue hu hE5 hS5 hR hF ea ep ee er ev eq em el f0 f1 f2 f3 f4 f5 f6 f7 l0 l3 l4 l6 l7 m2 m4 eb1 eb2 g1 g2 hchk hq hus
  go_enter Try.func31, Try.ntmps31
  go_wp2_with fail
  (with_reducible refine (kn _).mono ?_); rintro e1 W1 ⟨rfl, hb⟩
  have HB1 := Lib.hid (HB.out.below hb)
  clear HB hb kn
  go_wp2_with fail
  (with_reducible refine (ko _).mono ?_); rintro e1 W2 ⟨rfl, hb⟩
  have HB2 := Lib.hid (HB1.out.below hb)
  clear HB1 hb ko t2 t3
  go_wp2_with fail
  (with_reducible refine (k0 _).mono ?_); rintro e1 W3 ⟨rfl, rfl⟩
  have HB3 := Lib.hid (HB2.out.new 118 (inC 0 u))
  have hgw : w.heap.size < W2.heap.size := HB2.out.lt 0 rfl
  obtain ⟨g, hg⟩ : ∃ g, W2.heap.size = g := ⟨_, rfl⟩
  rw [hg] at HB3 hgw ⊢
  obtain ⟨W3, hW3⟩ : ∃ W3, W2.alloc (.cells (inC 0 u) 118) = W3 := ⟨_, rfl⟩
  rw [hW3] at HB3 ⊢
  have kg := HK.out W3 g 0 8 _ HB3.out (by omega) (by simp; omega) (by omega) (by decide)
  rw [show ((8 : Nat) : Int) = 8 from rfl, F0.out] at kg
  clear k0 hg hW3 HB2
  go_wp2_with fail
  (with_reducible refine (kg).mono ?_); rintro e1 W4 ⟨rfl, hb⟩
  have HB4 := Lib.hid hb
  clear hb HB3 kg
  go_wp2_with fail
  have HS0 := Lib.hid (swap (HB4.out.new 57 #[.int .i64 (a : Int), .bool false, .int .i64 0, .int .i64 0, .bool false, .int .i64 0, .int .i64 0, .string nob]))
  have hSg : g < W4.heap.size := HB4.out.lt 0 rfl
  obtain ⟨S, hS⟩ : ∃ S, W4.heap.size = S := ⟨_, rfl⟩
  rw [hS] at HS0 hSg ⊢
  obtain ⟨W5, hW5⟩ : ∃ W5, W4.alloc (.cells #[.int .i64 (a : Int), .bool false, .int .i64 0, .int .i64 0, .bool false, .int .i64 0, .int .i64 0, .string nob] 57) = W5 := ⟨_, rfl⟩
  rw [hW5] at HS0 ⊢
  have hL : ∀ (c c' : Array Value), ∀ x ∈ [(S, 57, c), (w.heap.size, 57, c')], x.1 ≠ g := fun c c' x hx => by
    rcases List.mem_cons.1 hx with rfl | hx
    · show S ≠ g; omega
    · rcases List.mem_cons.1 hx with rfl | hx
      · show w.heap.size ≠ g; omega
      · cases hx
  have HL := Lib.hid hL
  clear hS hW5 HB4 hL
  have kg := HK.out _ g 8 1 _ HS0.out (by omega) (HL.out _ _) (by omega) (by decide)
  rw [show ((1 : Nat) : Int) = 1 from rfl] at kg
  (with_reducible refine (kg).mono ?_); rintro e1 W6 ⟨rfl, hb⟩
  have HS6 := Lib.hid hb
  clear hb kg HS0
  have kg := HK.out _ g 9 1 _ HS6.out (by omega) (HL.out _ _) (by omega) (by decide)
  rw [show ((1 : Nat) : Int) = 1 from rfl, F1.out] at kg
  go_wp2_with fail
  (with_reducible refine (kg).mono ?_); rintro e1 W7 ⟨rfl, hb⟩
  have HS7 := Lib.hid hb
  clear hb kg HS6
  have z1 := Blk.cell (HS7.out.nth 1 rfl) 1 (v := .bool false) rfl
  have zf1 := Blk.frozen (HS7.out.nth 1 rfl) 1
  have HT7 := Lib.hid (show Bk w (W7.setCell ⟨S, 1, none⟩ (.bool b1)) [(g, 118, inC 10 u), (S, 57, #[.int .i64 (a : Int), .bool b1, .int .i64 0, .int .i64 0, .bool false, .int .i64 0, .int .i64 0, .string nob]), (w.heap.size, 57, #[.int .i64 0, .bool false, .int .i64 0, .int .i64 0, .bool false, .int .i64 0, .int .i64 0, .string nob])] from bk_put HS7.out (by omega) (by omega) (by omega) 1 (.bool b1))
  clear HS7
  have kg := HK.out _ g 10 14 _ HT7.out (by omega) (HL.out _ _) (by omega) (by decide)
  rw [show ((14 : Nat) : Int) = 14 from rfl] at kg
  go_wp2_with fail
  (with_reducible refine (kg).mono ?_); rintro e1 W8 ⟨rfl, hb⟩
  have HS8 := Lib.hid hb
  clear hb kg HT7
  have kg := HK.out _ g 24 16 _ HS8.out (by omega) (HL.out _ _) (by omega) (by decide)
  rw [show ((16 : Nat) : Int) = 16 from rfl, F2.out] at kg
  go_wp2_with fail
  (with_reducible refine (kg).mono ?_); rintro e1 W9 ⟨rfl, hb⟩
  have HS9 := Lib.hid hb
  clear hb kg HS8
  have z2 := Blk.cell (HS9.out.nth 1 rfl) 2 (v := .int .i64 0) rfl
  have zf2 := Blk.frozen (HS9.out.nth 1 rfl) 2
  have HT9 := Lib.hid (show Bk w (W9.setCell ⟨S, 2, none⟩ (.int .i64 (e : Int))) [(g, 118, inC 40 u), (S, 57, #[.int .i64 (a : Int), .bool b1, .int .i64 (e : Int), .int .i64 0, .bool false, .int .i64 0, .int .i64 0, .string nob]), (w.heap.size, 57, #[.int .i64 0, .bool false, .int .i64 0, .int .i64 0, .bool false, .int .i64 0, .int .i64 0, .string nob])] from bk_put HS9.out (by omega) (by omega) (by omega) 2 (.int .i64 (e : Int)))
  clear HS9
  have kg := HK.out _ g 40 2 _ HT9.out (by omega) (HL.out _ _) (by omega) (by decide)
  rw [show ((2 : Nat) : Int) = 2 from rfl, F3.out] at kg
  go_wp2_with fail
  (with_reducible refine (kg).mono ?_); rintro e1 W10 ⟨rfl, hb⟩
  have HS10 := Lib.hid hb
  clear hb kg HT9
  have kg := HK.out _ g 42 5 _ HS10.out (by omega) (HL.out _ _) (by omega) (by decide)
  rw [show ((5 : Nat) : Int) = 5 from rfl, F4.out] at kg
  go_wp2_with fail
  (with_reducible refine (kg).mono ?_); rintro e1 W11 ⟨rfl, hb⟩
  have HS11 := Lib.hid hb
  clear hb kg HS10
  have z3 := Blk.cell (HS11.out.nth 1 rfl) 3 (v := .int .i64 0) rfl
  have zf3 := Blk.frozen (HS11.out.nth 1 rfl) 3
  have HT11 := Lib.hid (show Bk w (W11.setCell ⟨S, 3, none⟩ (.int .i64 (v : Int))) [(g, 118, inC 47 u), (S, 57, #[.int .i64 (a : Int), .bool b1, .int .i64 (e : Int), .int .i64 (v : Int), .bool false, .int .i64 0, .int .i64 0, .string nob]), (w.heap.size, 57, #[.int .i64 0, .bool false, .int .i64 0, .int .i64 0, .bool false, .int .i64 0, .int .i64 0, .string nob])] from bk_put HS11.out (by omega) (by omega) (by omega) 3 (.int .i64 (v : Int)))
  clear HS11
  have kg := HK.out _ g 47 1 _ HT11.out (by omega) (HL.out _ _) (by omega) (by decide)
  rw [show ((1 : Nat) : Int) = 1 from rfl, F5.out] at kg
  go_wp2_with fail
  (with_reducible refine (kg).mono ?_); rintro e1 W12 ⟨rfl, hb⟩
  have HS12 := Lib.hid hb
  clear hb kg HT11
  have z4 := Blk.cell (HS12.out.nth 1 rfl) 4 (v := .bool false) rfl
  have zf4 := Blk.frozen (HS12.out.nth 1 rfl) 4
  have HT12 := Lib.hid (show Bk w (W12.setCell ⟨S, 4, none⟩ (.bool b2)) [(g, 118, inC 48 u), (S, 57, #[.int .i64 (a : Int), .bool b1, .int .i64 (e : Int), .int .i64 (v : Int), .bool b2, .int .i64 0, .int .i64 0, .string nob]), (w.heap.size, 57, #[.int .i64 0, .bool false, .int .i64 0, .int .i64 0, .bool false, .int .i64 0, .int .i64 0, .string nob])] from bk_put HS12.out (by omega) (by omega) (by omega) 4 (.bool b2))
  clear HS12
  have kg := HK.out _ g 48 8 _ HT12.out (by omega) (HL.out _ _) (by omega) (by decide)
  rw [show ((8 : Nat) : Int) = 8 from rfl, F6.out] at kg
  go_wp2_with fail
  (with_reducible refine (kg).mono ?_); rintro e1 W13 ⟨rfl, hb⟩
  have HS13 := Lib.hid hb
  clear hb kg HT12
  have z5 := Blk.cell (HS13.out.nth 1 rfl) 5 (v := .int .i64 0) rfl
  have zf5 := Blk.frozen (HS13.out.nth 1 rfl) 5
  have HT13 := Lib.hid (show Bk w (W13.setCell ⟨S, 5, none⟩ (.int .i64 (m : Int))) [(g, 118, inC 56 u), (S, 57, #[.int .i64 (a : Int), .bool b1, .int .i64 (e : Int), .int .i64 (v : Int), .bool b2, .int .i64 (m : Int), .int .i64 0, .string nob]), (w.heap.size, 57, #[.int .i64 0, .bool false, .int .i64 0, .int .i64 0, .bool false, .int .i64 0, .int .i64 0, .string nob])] from bk_put HS13.out (by omega) (by omega) (by omega) 5 (.int .i64 (m : Int)))
  clear HS13
  have kg := HK.out _ g 56 8 _ HT13.out (by omega) (HL.out _ _) (by omega) (by decide)
  rw [show ((8 : Nat) : Int) = 8 from rfl, F7.out] at kg
  go_wp2_with fail
  (with_reducible refine (kg).mono ?_); rintro e1 W14 ⟨rfl, hb⟩
  have HS14 := Lib.hid hb
  clear hb kg HT13
  have z6 := Blk.cell (HS14.out.nth 1 rfl) 6 (v := .int .i64 0) rfl
  have zf6 := Blk.frozen (HS14.out.nth 1 rfl) 6
  have HT14 := Lib.hid (show Bk w (W14.setCell ⟨S, 6, none⟩ (.int .i64 (l : Int))) [(g, 118, inC 64 u), (S, 57, #[.int .i64 (a : Int), .bool b1, .int .i64 (e : Int), .int .i64 (v : Int), .bool b2, .int .i64 (m : Int), .int .i64 (l : Int), .string nob]), (w.heap.size, 57, #[.int .i64 0, .bool false, .int .i64 0, .int .i64 0, .bool false, .int .i64 0, .int .i64 0, .string nob])] from bk_put HS14.out (by omega) (by omega) (by omega) 6 (.int .i64 (l : Int)))
  clear HS14
  obtain ⟨V, hV⟩ : ∃ V, W14.setCell ⟨S, 6, none⟩ (.int .i64 (l : Int)) = V := ⟨_, rfl⟩
  obtain ⟨M, hM⟩ : ∃ M, u.size = 8 + M := ⟨u.size - 8, by omega⟩
  obtain ⟨LN, hLN⟩ : ∃ LN, 8 * u.size - 64 = LN := ⟨_, rfl⟩
  have kl := fun (W : World) (h : Blk W g 118 (inC 64 u)) => left_any g 64 u W h HU.out (by omega)
  rw [hLN] at kl
  have kt := fun (W : World) (h : Blk W g 118 (inC (8 * 8) u)) => itext_ok g 8 M u W h HU.out (by omega)
  have hME : (M : Int) = (LN : Int) / 8 := by omega
  have HX := Lib.hid (show u.extract 8 (8 + M) = u.extract 8 u.size by rw [hM])
  rw [hME, HX.out] at kt
  obtain ⟨X, hX⟩ : ∃ X, u.extract 8 u.size = X := ⟨_, rfl⟩
  rw [hX] at kt kc HR
  have kl1 := kl _ (HT14.out.nth 0 rfl)
  have kt1 := kt _ (HT14.out.nth 0 rfl)
  have zl : (LN : Int) ≤ 40000 := by omega
  have zl0 : (0 : Int) ≤ (LN : Int) := by omega
  clear hV hM hLN hME hX kl kt
  go_wp2_with fail
  (with_reducible refine (kl1).mono ?_); rintro e1 W15 ⟨rfl, rfl⟩
  clear kl1
  go_wp2_with fail
  (with_reducible refine (kt1).mono ?_); rintro e1 W16 ⟨rfl, hg16, hb16⟩
  have HS16 := Lib.hid (show Bk w W16 [(g, 118, inC (8 * (8 + M)) u), (S, 57, #[.int .i64 (a : Int), .bool b1, .int .i64 (e : Int), .int .i64 (v : Int), .bool b2, .int .i64 (m : Int), .int .i64 (l : Int), .string nob]), (w.heap.size, 57, #[.int .i64 0, .bool false, .int .i64 0, .int .i64 0, .bool false, .int .i64 0, .int .i64 0, .string nob])] from ⟨HT14.out.be.trans (below_of_only hb16 HT14.out.size (fun k hk => by injection hk with hk; omega)), fun x hx => by
    rcases List.mem_cons.1 hx with rfl | hx
    · exact hg16
    · exact Blk.grown (HT14.out.all x (List.mem_cons_of_mem _ hx)) hb16 (by simpa using HL.out _ _ x hx)⟩)
  have z7 := Blk.cell (HS16.out.nth 1 rfl) 7 (v := .string nob) rfl
  have zf7 := Blk.frozen (HS16.out.nth 1 rfl) 7
  have HT16 := Lib.hid (show Bk w (W16.setCell ⟨S, 7, none⟩ (.string X)) [(g, 118, inC (8 * (8 + M)) u), (S, 57, #[.int .i64 (a : Int), .bool b1, .int .i64 (e : Int), .int .i64 (v : Int), .bool b2, .int .i64 (m : Int), .int .i64 (l : Int), .string X]), (w.heap.size, 57, #[.int .i64 0, .bool false, .int .i64 0, .int .i64 0, .bool false, .int .i64 0, .int .i64 0, .string nob])] from bk_put HS16.out (by omega) (by omega) (by omega) 7 (.string X))
  have c0 := Blk.cell (HT16.out.nth 1 rfl) 0 (v := .int .i64 (a : Int)) rfl
  have c1 := Blk.cell (HT16.out.nth 1 rfl) 1 (v := .bool b1) rfl
  have c2 := Blk.cell (HT16.out.nth 1 rfl) 2 (v := .int .i64 (e : Int)) rfl
  have c3 := Blk.cell (HT16.out.nth 1 rfl) 3 (v := .int .i64 (v : Int)) rfl
  have c4 := Blk.cell (HT16.out.nth 1 rfl) 4 (v := .bool b2) rfl
  have c5 := Blk.cell (HT16.out.nth 1 rfl) 5 (v := .int .i64 (m : Int)) rfl
  have c6 := Blk.cell (HT16.out.nth 1 rfl) 6 (v := .int .i64 (l : Int)) rfl
  have c7 := Blk.cell (HT16.out.nth 1 rfl) 7 (v := .string X) rfl
  have HBE0 := Lib.hid HT16.out.be
  clear kt1 hg16 hb16 HT14 HS16
  by_cases hr3 : r = 3
  · have t5 : ((r : Int) == 3) = true := by simp; omega
    by_cases hlm : l < m
    · have HE := Lib.hid (dec_zero (t := t) (c := 12) (by rw [HE5.out, if_pos (HF.out.2 (Or.inr hlm))]) (by decide))
      rw [if_pos hlm] at kc
      clear hr3 hlm
      go_wp2_with fail
      (with_reducible refine (kc _).mono ?_); rintro e1 W17 ⟨rfl, hb⟩
      have HB17 := Lib.hid (HT16.out.below hb)
      have HBE := Lib.hid HB17.out.be
      clear kc hb
      go_wp2_with (refine wpList_store_blk (g := w.heap.size) (T := 57) (cs' := #[.int .i64 0, .bool false, .int .i64 0, .int .i64 0, .bool false, .int .i64 0, .int .i64 0, .string nob]) rfl 57 _ _ rfl rfl rfl (HB17.out.nth 2 rfl) (by kernel_rfl) (by kernel_rfl) (by kernel_rfl) (by kernel_rfl) ?_; intro W9 hW9 hg9 hz9)
      have hVE := HBE.out.trans (below_of_only hg9 HBE.out.size (fun k hk => by injection hk with hk; omega))
      exact bodyPost_ret (v := .tuple #[.agg zeroS.vals, .int .i64 12]) (by refine res_row (fn := Try.f31) (p := 2) (q := 3) rfl _ _ w.heap.size 57 _ (0, 0) _ ?_ hW9 Try.underlying57 rfl (by kernel_rfl); rfl) rfl ⟨by rw [HE.out.1, HE.out.2], hVE⟩
    · have h0 : decE t = 0 := by rw [HE5.out, if_neg (fun h => by rcases HF.out.1 h with h | h; (exact h hr3); (exact hlm h))]
      have HE := Lib.hid (show decE t = 0 ∧ decS t = ⟨(a : Int), b1, (e : Int), (v : Int), b2, (m : Int), (l : Int), X⟩ from ⟨h0, by rw [HS5.out, if_pos h0, HR.out]⟩)
      rw [if_neg hlm] at kc
      clear hr3 hlm h0
      go_wp2_with fail
      (with_reducible refine (kc _).mono ?_); rintro e1 W17 ⟨rfl, hb⟩
      have HB17 := Lib.hid (HT16.out.below hb)
      clear kc hb c0 c1 c2 c3 c4 c5 c6 c7
      have d0 := Blk.cell (HB17.out.nth 1 rfl) 0 (v := .int .i64 (a : Int)) rfl
      have d1 := Blk.cell (HB17.out.nth 1 rfl) 1 (v := .bool b1) rfl
      have d2 := Blk.cell (HB17.out.nth 1 rfl) 2 (v := .int .i64 (e : Int)) rfl
      have d3 := Blk.cell (HB17.out.nth 1 rfl) 3 (v := .int .i64 (v : Int)) rfl
      have d4 := Blk.cell (HB17.out.nth 1 rfl) 4 (v := .bool b2) rfl
      have d5 := Blk.cell (HB17.out.nth 1 rfl) 5 (v := .int .i64 (m : Int)) rfl
      have d6 := Blk.cell (HB17.out.nth 1 rfl) 6 (v := .int .i64 (l : Int)) rfl
      have d7 := Blk.cell (HB17.out.nth 1 rfl) 7 (v := .string X) rfl
      go_wp2_with (refine wpList_store_blk (g := w.heap.size) (T := 57) (cs' := #[.int .i64 (a : Int), .bool b1, .int .i64 (e : Int), .int .i64 (v : Int), .bool b2, .int .i64 (m : Int), .int .i64 (l : Int), .string X]) rfl 57 _ _ rfl rfl rfl (HB17.out.nth 2 rfl) (by kernel_rfl) (by kernel_rfl) (by kernel_rfl) (by kernel_rfl) ?_; intro W9 hW9 hg9 hz9)
      have hVE := HB17.out.be.trans (below_of_only hg9 HB17.out.size (fun k hk => by injection hk with hk; omega))
      exact bodyPost_ret (v := .tuple #[.agg #[.int .i64 (a : Int), .bool b1, .int .i64 (e : Int), .int .i64 (v : Int), .bool b2, .int .i64 (m : Int), .int .i64 (l : Int), .string X], .int .i64 0]) (by refine res_row (fn := Try.f31) (p := 2) (q := 3) rfl _ _ w.heap.size 57 _ (0, 0) _ ?_ hW9 Try.underlying57 rfl (by kernel_rfl); rfl) rfl ⟨by rw [HE.out.1, HE.out.2]; simp [Sc.vals], hVE⟩
  · have t5 : ((r : Int) == 3) = false := by simp; omega
    have HE := Lib.hid (dec_zero (t := t) (c := 12) (by rw [HE5.out, if_pos (HF.out.2 (Or.inl hr3))]) (by decide))
    have HBE := Lib.hid HT16.out.be
    clear hr3
    go_wp2_with (refine wpList_store_blk (g := w.heap.size) (T := 57) (cs' := #[.int .i64 0, .bool false, .int .i64 0, .int .i64 0, .bool false, .int .i64 0, .int .i64 0, .string nob]) rfl 57 _ _ rfl rfl rfl (HT16.out.nth 2 rfl) (by kernel_rfl) (by kernel_rfl) (by kernel_rfl) (by kernel_rfl) ?_; intro W9 hW9 hg9 hz9)
    have hVE := HBE.out.trans (below_of_only hg9 HBE.out.size (fun k hk => by injection hk with hk; omega))
    exact bodyPost_ret (v := .tuple #[.agg zeroS.vals, .int .i64 12]) (by refine res_row (fn := Try.f31) (p := 2) (q := 3) rfl _ _ w.heap.size 57 _ (0, 0) _ ?_ hW9 Try.underlying57 rfl (by kernel_rfl); rfl) rfl ⟨by rw [HE.out.1, HE.out.2], hVE⟩
theorem decode_any (t : ByteArray) (w : World) (hs : t.size ≤ 1099511627776) : Calls Try.prog 31 #[.string t] w fun e w' => e = .returned (.tuple #[.agg (decS t).vals, .int .i64 (decE t)]) ∧ Below w.heap.size w w' := by
  by_cases h1 : needE t = 0
  · by_cases h2 : t.size = needN t
    · by_cases h4 : openE t = 0
      · exact dec_ok t w hs h1 h2 h4
      · exact dec_open t w hs h1 h2 h4
    · exact dec_len t w hs h1 h2
  · exact dec_need t w hs h1
end Go.Proofs.Ytfadhgbhdoddpaa.SeK
