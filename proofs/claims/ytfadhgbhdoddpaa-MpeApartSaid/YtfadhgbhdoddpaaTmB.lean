/- times: Decode, of four bytes. -/
import Derived.Test.YtfadhgbhdoddpaaTmA
namespace Go.Proofs.Ytfadhgbhdoddpaa.TmB
open Go Go.RowKit Go.Proofs.Ytfadhgbhdoddpaa.Q Go.Proofs.Ytfadhgbhdoddpaa.Mem Go.Proofs.Ytfadhgbhdoddpaa.Rg Go.Proofs.Ytfadhgbhdoddpaa.Ap Go.Proofs.Ytfadhgbhdoddpaa.St Go.Proofs.Ytfadhgbhdoddpaa.BiP Go.Proofs.Ytfadhgbhdoddpaa.BiA Go.Proofs.Ytfadhgbhdoddpaa.BiG Go.Proofs.Ytfadhgbhdoddpaa.BiH Go.Proofs.Ytfadhgbhdoddpaa.SeA Go.Proofs.Ytfadhgbhdoddpaa.SeG Go.Proofs.Ytfadhgbhdoddpaa.SeI Go.Proofs.Ytfadhgbhdoddpaa.SeJ Go.Proofs.Ytfadhgbhdoddpaa.SeP Go.Proofs.Ytfadhgbhdoddpaa.TmA

/-- the times of four bytes -/
def tmD (s : ByteArray) : Ti := ⟨(at0 s 0 * 16 + at0 s 1 / 16 : Nat), decide (at0 s 1 / 8 % 2 = 1), decide (at0 s 1 / 4 % 2 = 1), (at0 s 1 % 4 * 65536 + at0 s 2 * 256 + at0 s 3 : Nat)⟩
theorem tmD_ok (s : ByteArray) : (tmD s).ok := by
  have l0 := at0_lt s 0
  have l1 := at0_lt s 1
  have l2 := at0_lt s 2
  have l3 := at0_lt s 3
  unfold Ti.ok tmD
  dsimp only
  omega
theorem four_bl (s : ByteArray) (h : s.size = 4) : bl s = [UInt8.ofNat (at0 s 0), UInt8.ofNat (at0 s 1), UInt8.ofNat (at0 s 2), UInt8.ofNat (at0 s 3)] := by
  apply List.ext_getElem?
  intro i
  by_cases hi : i < 4
  · rw [bl_at0 s i (by omega)]
    match i, hi with
    | 0, _ | 1, _ | 2, _ | 3, _ => rfl
  · rw [List.getElem?_eq_none (by rw [bl_len]; omega), List.getElem?_eq_none (by simp; omega)]
theorem tmL_tmD (s : ByteArray) (h : s.size = 4) : tmL (tmD s) = bl s := by
  have l0 := at0_lt s 0
  have l1 := at0_lt s 1
  have l2 := at0_lt s 2
  have l3 := at0_lt s 3
  rw [four_bl s h]
  unfold tmL tmD
  dsimp only
  rw [nb_dec, nb_dec, Int.toNat_natCast, Int.toNat_natCast]
  have e1 : (at0 s 0 * 16 + at0 s 1 / 16) / 16 = at0 s 0 := by omega
  have e2 : (at0 s 0 * 16 + at0 s 1 / 16) % 16 * 16 + at0 s 1 / 8 % 2 * 8 + at0 s 1 / 4 % 2 * 4 + (at0 s 1 % 4 * 65536 + at0 s 2 * 256 + at0 s 3) / 65536 = at0 s 1 := by omega
  have e3 : (at0 s 1 % 4 * 65536 + at0 s 2 * 256 + at0 s 3) / 256 % 256 = at0 s 2 := by omega
  have e4 : (at0 s 1 % 4 * 65536 + at0 s 2 * 256 + at0 s 3) % 256 = at0 s 3 := by omega
  rw [e1, e2, e3, e4]
theorem tmD_tmL (t : Ti) (h : t.ok) : tmD (str (tmL t)) = t := by
  have u0 := at0_str (tmL t) 0 _ rfl
  have u1 := at0_str (tmL t) 1 _ rfl
  have u2 := at0_str (tmL t) 2 _ rfl
  have u3 := at0_str (tmL t) 3 _ rfl
  simp only [UInt8.toNat_ofNat'] at u0 u1 u2 u3
  have p := nb_le t.table
  have q := nb_le t.frame
  have db : ∀ b : Bool, decide (nb b = 1) = b := fun b => by cases b <;> rfl
  unfold Ti.ok at h
  unfold tmD
  rw [u0, u1, u2, u3, ti_iff]
  dsimp only
  rw [show (t.delta.toNat % 16 * 16 + nb t.table * 8 + nb t.frame * 4 + t.at_.toNat / 65536) % 2 ^ 8 / 8 % 2 = nb t.table by omega, show (t.delta.toNat % 16 * 16 + nb t.table * 8 + nb t.frame * 4 + t.at_.toNat / 65536) % 2 ^ 8 / 4 % 2 = nb t.frame by omega, db, db]
  refine ⟨by omega, rfl, rfl, by omega⟩
theorem tfields (u : ByteArray) : gb u 0 12 = at0 u 0 * 16 + at0 u 1 / 16 ∧ gb u 12 1 = at0 u 1 / 8 % 2 ∧ gb u 13 1 = at0 u 1 / 4 % 2 ∧ gb u 14 18 = at0 u 1 % 4 * 65536 + at0 u 2 * 256 + at0 u 3 := by
  have l1 := at0_lt u 1
  have g0 := gb_byte u 0
  have g2 := gb_byte u 2
  have g3 := gb_byte u 3
  have a1 := gb_in u 1 0 4 (by omega)
  have a2 := gb_in u 1 4 1 (by omega)
  have a3 := gb_in u 1 5 1 (by omega)
  have a4 := gb_in u 1 6 2 (by omega)
  have h1 := gb_split u 0 8 4
  have h2 := gb_split u 14 2 16
  have h3 := gb_split u 16 8 8
  simp only [Nat.reduceMul, Nat.reduceAdd, Nat.reducePow, Nat.reduceSub] at g0 g2 g3 a1 a2 a3 a4 h1 h2 h3
  refine ⟨?_, ?_, ?_, ?_⟩
  · rw [h1, g0, a1]; omega
  · rw [a2]
  · rw [a3]
  · rw [h2, a4, h3, g2, g3]; omega
set_option maxRecDepth 100000
set_option maxHeartbeats 3200000 in
theorem tdec_any (u : ByteArray) (w : World) (hs : u.size = 4) : Calls Try.prog 32 #[.string u] w fun e w' => e = .returned (.tuple #[.agg (tmD u).vals, .int .i64 0]) ∧ Below w.heap.size w w' := by
  have HB := Lib.hid (bk1 w 23 #[.int .i64 0, .bool false, .bool false, .int .i64 0])
  obtain ⟨f0, f1, f2, f3⟩ := tfields u
  have l0 := at0_lt u 0
  have l1 := at0_lt u 1
  have l2 := at0_lt u 2
  have l3 := at0_lt u 3
  have hR : tmD u = ⟨(at0 u 0 * 16 + at0 u 1 / 16 : Nat), decide (at0 u 1 / 8 % 2 = 1), decide (at0 u 1 / 4 % 2 = 1), (at0 u 1 % 4 * 65536 + at0 u 2 * 256 + at0 u 3 : Nat)⟩ := rfl
  have m0 : at0 u 0 * 16 + at0 u 1 / 16 ≤ 4095 := by omega
  have m3 : at0 u 1 % 4 * 65536 + at0 u 2 * 256 + at0 u 3 ≤ 262143 := by omega
  obtain ⟨a, ea⟩ : ∃ x, at0 u 0 * 16 + at0 u 1 / 16 = x := ⟨_, rfl⟩
  obtain ⟨p, ep⟩ : ∃ x, at0 u 1 / 8 % 2 = x := ⟨_, rfl⟩
  obtain ⟨q, eq⟩ : ∃ x, at0 u 1 / 4 % 2 = x := ⟨_, rfl⟩
  obtain ⟨b, eb⟩ : ∃ x, at0 u 1 % 4 * 65536 + at0 u 2 * 256 + at0 u 3 = x := ⟨_, rfl⟩
  rw [ea] at f0 hR m0
  rw [ep] at f1 hR
  rw [eq] at f2 hR
  rw [eb] at f3 hR m3
  have F0 := Lib.hid f0
  have F1 := Lib.hid f1
  have F2 := Lib.hid f2
  have F3 := Lib.hid f3
  have q0 := wrap63 a (by omega)
  have q3 := wrap63 b (by omega)
  have hb1 : ((p : Int) == 1) = decide (p = 1) := by by_cases hx : p = 1 <;> simp [hx] <;> omega
  have hb2 : ((q : Int) == 1) = decide (q = 1) := by by_cases hx : q = 1 <;> simp [hx] <;> omega
  obtain ⟨b1, eb1⟩ : ∃ x, decide (p = 1) = x := ⟨_, rfl⟩
  obtain ⟨b2, eb2⟩ : ∃ x, decide (q = 1) = x := ⟨_, rfl⟩
  rw [eb1] at hb1 hR
  rw [eb2] at hb2 hR
  have HR := Lib.hid hR
  have hus : u.size ≤ 1099511627776 := by omega
  have kg := fun (W : World) (g a n : Nat) (L : List (Nat × TypeId × Array Value)) (h : Bk w W ((g, 118, inC a u) :: L)) hg hL h1 h2 => get_bk (n := n) h hg hL hus h1 h2
  have HK := Lib.hid kg
  have k0 := fun V => read_any u V
  have HU := Lib.hid hs
  have t2 : decide (u.size < 4) = false := by simp; omega
  have t3 : decide (4 < u.size) = false := by simp; omega
  clear kg hR ea ep eq eb f0 f1 f2 f3 l0 l1 l2 l3 m0 m3 eb1 eb2 hus
  go_enter Try.func32, Try.ntmps32
  go_wp2_with fail
  (with_reducible refine (k0 _).mono ?_); rintro e1 W3 ⟨rfl, rfl⟩
  have HB3 := Lib.hid (HB.out.new 118 (inC 0 u))
  have hgw : w.heap.size < (w.alloc (.cells #[.int .i64 0, .bool false, .bool false, .int .i64 0] 23)).heap.size := HB.out.lt 0 rfl
  obtain ⟨g, hg⟩ : ∃ g, (w.alloc (.cells #[.int .i64 0, .bool false, .bool false, .int .i64 0] 23)).heap.size = g := ⟨_, rfl⟩
  rw [hg] at HB3 hgw ⊢
  obtain ⟨W3, hW3⟩ : ∃ W3, (w.alloc (.cells #[.int .i64 0, .bool false, .bool false, .int .i64 0] 23)).alloc (.cells (inC 0 u) 118) = W3 := ⟨_, rfl⟩
  rw [hW3] at HB3 ⊢
  have kg := HK.out W3 g 0 12 _ HB3.out (by omega) (by simp; omega) (by have := HU.out; omega) (by decide)
  rw [show ((12 : Nat) : Int) = 12 from rfl, F0.out] at kg
  clear k0 hg hW3 HB t2 t3
  clear hs
  go_wp2_with fail
  (with_reducible refine (kg).mono ?_); rintro e1 W4 ⟨rfl, hb⟩
  have HB4 := Lib.hid hb
  clear hb HB3 kg
  go_wp2_with fail
  have HS0 := Lib.hid (swap (HB4.out.new 23 #[.int .i64 (a : Int), .bool false, .bool false, .int .i64 0]))
  have hSg : g < W4.heap.size := HB4.out.lt 0 rfl
  obtain ⟨S, hS⟩ : ∃ S, W4.heap.size = S := ⟨_, rfl⟩
  rw [hS] at HS0 hSg ⊢
  obtain ⟨W5, hW5⟩ : ∃ W5, W4.alloc (.cells #[.int .i64 (a : Int), .bool false, .bool false, .int .i64 0] 23) = W5 := ⟨_, rfl⟩
  rw [hW5] at HS0 ⊢
  have hL : ∀ (c c' : Array Value), ∀ x ∈ [(S, 23, c), (w.heap.size, 23, c')], x.1 ≠ g := fun c c' x hx => by
    rcases List.mem_cons.1 hx with rfl | hx
    · show S ≠ g; omega
    · rcases List.mem_cons.1 hx with rfl | hx
      · show w.heap.size ≠ g; omega
      · cases hx
  have HL := Lib.hid hL
  clear hS hW5 HB4 hL
  have kg := HK.out _ g 12 1 _ HS0.out (by omega) (HL.out _ _) (by have := HU.out; omega) (by decide)
  rw [show ((1 : Nat) : Int) = 1 from rfl, F1.out] at kg
  (with_reducible refine (kg).mono ?_); rintro e1 W7 ⟨rfl, hb⟩
  have HS7 := Lib.hid hb
  clear hb kg HS0
  have z1 := Blk.cell (HS7.out.nth 1 rfl) 1 (v := .bool false) rfl
  have zf1 := Blk.frozen (HS7.out.nth 1 rfl) 1
  have HT7 := Lib.hid (show Bk w (W7.setCell ⟨S, 1, none⟩ (.bool b1)) [(g, 118, inC 13 u), (S, 23, #[.int .i64 (a : Int), .bool b1, .bool false, .int .i64 0]), (w.heap.size, 23, #[.int .i64 0, .bool false, .bool false, .int .i64 0])] from bk_put HS7.out (by omega) (by omega) (by omega) 1 (.bool b1))
  clear HS7
  have kg := HK.out _ g 13 1 _ HT7.out (by omega) (HL.out _ _) (by have := HU.out; omega) (by decide)
  rw [show ((1 : Nat) : Int) = 1 from rfl, F2.out] at kg
  go_wp2_with fail
  (with_reducible refine (kg).mono ?_); rintro e1 W8 ⟨rfl, hb⟩
  have HS8 := Lib.hid hb
  clear hb kg HT7
  have z2 := Blk.cell (HS8.out.nth 1 rfl) 2 (v := .bool false) rfl
  have zf2 := Blk.frozen (HS8.out.nth 1 rfl) 2
  have HT8 := Lib.hid (show Bk w (W8.setCell ⟨S, 2, none⟩ (.bool b2)) [(g, 118, inC 14 u), (S, 23, #[.int .i64 (a : Int), .bool b1, .bool b2, .int .i64 0]), (w.heap.size, 23, #[.int .i64 0, .bool false, .bool false, .int .i64 0])] from bk_put HS8.out (by omega) (by omega) (by omega) 2 (.bool b2))
  clear HS8
  have kg := HK.out _ g 14 18 _ HT8.out (by omega) (HL.out _ _) (by have := HU.out; omega) (by decide)
  rw [show ((18 : Nat) : Int) = 18 from rfl, F3.out] at kg
  go_wp2_with fail
  (with_reducible refine (kg).mono ?_); rintro e1 W9 ⟨rfl, hb⟩
  have HS9 := Lib.hid hb
  clear hb kg HT8
  have z3 := Blk.cell (HS9.out.nth 1 rfl) 3 (v := .int .i64 0) rfl
  have zf3 := Blk.frozen (HS9.out.nth 1 rfl) 3
  have HT9 := Lib.hid (show Bk w (W9.setCell ⟨S, 3, none⟩ (.int .i64 (b : Int))) [(g, 118, inC 32 u), (S, 23, #[.int .i64 (a : Int), .bool b1, .bool b2, .int .i64 (b : Int)]), (w.heap.size, 23, #[.int .i64 0, .bool false, .bool false, .int .i64 0])] from bk_put HS9.out (by omega) (by omega) (by omega) 3 (.int .i64 (b : Int)))
  clear HS9
  have d0 := Blk.cell (HT9.out.nth 1 rfl) 0 (v := .int .i64 (a : Int)) rfl
  have d1 := Blk.cell (HT9.out.nth 1 rfl) 1 (v := .bool b1) rfl
  have d2 := Blk.cell (HT9.out.nth 1 rfl) 2 (v := .bool b2) rfl
  have d3 := Blk.cell (HT9.out.nth 1 rfl) 3 (v := .int .i64 (b : Int)) rfl
  go_wp2_with (refine wpList_store_blk (g := w.heap.size) (T := 23) (cs' := #[.int .i64 (a : Int), .bool b1, .bool b2, .int .i64 (b : Int)]) rfl 23 _ _ rfl rfl rfl (HT9.out.nth 2 rfl) (by kernel_rfl) (by kernel_rfl) (by kernel_rfl) (by kernel_rfl) ?_; intro W9 hW9 hg9 hz9)
  have hVE := HT9.out.be.trans (below_of_only hg9 HT9.out.size (fun k hk => by injection hk with hk; omega))
  exact bodyPost_ret (v := .tuple #[.agg #[.int .i64 (a : Int), .bool b1, .bool b2, .int .i64 (b : Int)], .int .i64 0]) (by refine res_row (fn := Try.f32) (p := 2) (q := 3) rfl _ _ w.heap.size 23 _ (0, 0) _ ?_ hW9 Try.underlying23 rfl (by kernel_rfl); rfl) rfl ⟨by rw [HR.out]; simp [Ti.vals], hVE⟩
end Go.Proofs.Ytfadhgbhdoddpaa.TmB
