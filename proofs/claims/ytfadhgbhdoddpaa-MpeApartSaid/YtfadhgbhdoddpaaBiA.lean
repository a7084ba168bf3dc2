/- bits, walked: a reader, where nothing is wrong. -/
import Derived.Test.YtfadhgbhdoddpaaSt
import Derived.Outline
namespace Go.Proofs.Ytfadhgbhdoddpaa.BiA
open Go Go.RowKit Go.Proofs.Ytfadhgbhdoddpaa.Q Go.Proofs.Ytfadhgbhdoddpaa.Mem Go.Proofs.Ytfadhgbhdoddpaa.Rg Go.Proofs.Ytfadhgbhdoddpaa.St

/-- a bit of a string; some bits, as a number -/
def bitS (s : ByteArray) (i : Nat) : Nat := (s.data[i / 8]?.getD 0).toNat / 2 ^ (7 - i % 8) % 2
def gb (s : ByteArray) (at' : Nat) : Nat → Nat
  | 0 => 0
  | n + 1 => 2 * gb s at' n + bitS s (at' + n)
theorem bitS_lt (s : ByteArray) (i : Nat) : bitS s i ≤ 1 := by unfold bitS; omega
theorem or2 (a b : Nat) (ha : 2 * a + b < 2 ^ 64) (hb : b ≤ 1) : bits .or .u64 ((a : Int) * 2) (b : Int) = ((2 * a + b : Nat) : Int) := by
  have := (bits_nat .u64 64 (by decide) (fun n h1 h2 => by rw [IntKind.wrap_u64]; omega) (a * 2) b (by omega) (by omega)).2
  rw [show ((a * 2 : Nat) : Int) = (a : Int) * 2 by omega] at this
  rw [this]
  have e := Nat.two_pow_add_eq_or_of_lt (i := 1) (show b < 2 ^ 1 by omega) a
  rw [show a * 2 = 2 ^ 1 * a by omega, ← e]
theorem and1 (s : ByteArray) (A : Nat) : bits .and .u8 (at' s (A / 8) / 2 ^ (7 - A % 8)) 1 = (bitS s A : Int) := by
  unfold at' bitS
  obtain ⟨b, hb⟩ : ∃ b, (s.data[A / 8]?.getD 0) = b := ⟨_, rfl⟩
  rw [hb]
  have hlt := UInt8.toNat_lt b
  obtain ⟨e, he⟩ : ∃ e, 7 - A % 8 = e := ⟨_, rfl⟩
  rw [he]
  have hq : (b.toNat : Int) / 2 ^ e = ((b.toNat / 2 ^ e : Nat) : Int) := by simp
  rw [hq]
  have hd : b.toNat / 2 ^ e ≤ b.toNat := Nat.div_le_self _ _
  have := (bits_nat .u8 8 (by decide) (fun n h1 h2 => by rw [IntKind.wrap_u8]; omega) (b.toNat / 2 ^ e) 1 (by omega) (by decide)).1
  rw [show ((1 : Nat) : Int) = 1 from rfl] at this
  rw [this, show (1 : Nat) = 2 ^ 1 - 1 by decide, Nat.and_two_pow_sub_one_eq_mod]
theorem gb_lt (s : ByteArray) (a n : Nat) : gb s a n < 2 ^ n := by
  induction n with
  | zero => simp [gb]
  | succ n ih => have := bitS_lt s (a + n); simp only [gb, Nat.pow_succ]; omega
/-- a reader: where it is, and its bytes -/
def inC (a : Nat) (s : ByteArray) : Array Value := #[.int .i64 (a : Int), .int .i64 0, .string s]
set_option maxRecDepth 100000
theorem text_any (g a : Nat) (s : ByteArray) (w : World) (h : Blk w g 118 (inC a s)) : Calls Try.prog 68 #[.pointer (some ⟨g, 0, none⟩)] w fun e w' => e = .returned (.string s) ∧ w = w' := by
  have c2 := Blk.cell h 2 (v := .string s) rfl
  clear h
  go_enter Try.func68, Try.ntmps68
  go_wp2_with fail
  go_ret
  exact ⟨rfl, rfl⟩
theorem at_any (g a : Nat) (s : ByteArray) (w : World) (h : Blk w g 118 (inC a s)) : Calls Try.prog 69 #[.pointer (some ⟨g, 0, none⟩)] w fun e w' => e = .returned (.int .i64 (a : Int)) ∧ w = w' := by
  have c2 := Blk.cell h 0 (v := .int .i64 a) rfl
  clear h
  go_enter Try.func69, Try.ntmps69
  go_wp2_with fail
  go_ret
  exact ⟨rfl, rfl⟩
theorem left_any (g a : Nat) (s : ByteArray) (w : World) (h : Blk w g 118 (inC a s)) (hs : s.size ≤ 1099511627776) (ha : a ≤ 8 * s.size) : Calls Try.prog 55 #[.pointer (some ⟨g, 0, none⟩)] w fun e w' => e = .returned (.int .i64 (8 * s.size - a : Nat)) ∧ w = w' := by
  have k1 := text_any g a s w h
  have k2 := at_any g a s w h
  have z0 : (0 : Int) ≤ a := by omega
  have z1 : (a : Int) ≤ 8796093022208 := by omega
  have HE := Lib.hid (show ((8 * s.size - a : Nat) : Int) = (s.size : Int) * 8 - a by omega)
  clear h ha
  rw [HE.out]
  go_enter Try.func55, Try.ntmps55
  go_wp2_with fail
  (with_reducible refine (k1).mono ?_); rintro e1 W1 ⟨rfl, rfl⟩
  go_wp2_with fail
  (with_reducible refine (k2).mono ?_); rintro e1 W1 ⟨rfl, rfl⟩
  go_wp2_with fail
  go_ret
  exact ⟨rfl, rfl⟩
theorem may_ok (g a n : Nat) (s : ByteArray) (w : World) (h : Blk w g 118 (inC a s)) (hs : s.size ≤ 1099511627776) (hn : a + n ≤ 8 * s.size) : Calls Try.prog 67 #[.pointer (some ⟨g, 0, none⟩), .int .i64 (n : Int), .bool true] w fun e w' => e = .returned (.bool true) ∧ w = w' := by
  have k1 := left_any g a s w h hs (by omega)
  obtain ⟨N, hN⟩ : ∃ N, 8 * s.size - a = N := ⟨_, rfl⟩
  rw [hN] at k1
  have t1 : decide (N < n) = false := by simp; omega
  have c1 := Blk.cell h 1 (v := .int .i64 0) rfl
  clear h hN hn
  go_enter Try.func67, Try.ntmps67
  go_wp2_with fail
  (with_reducible refine (k1).mono ?_); rintro e1 W1 ⟨rfl, rfl⟩
  go_wp2_with fail
  go_ret
  exact ⟨rfl, rfl⟩
set_option maxHeartbeats 800000 in
theorem get_ok (g a n : Nat) (s : ByteArray) (w : World) (h : Blk w g 118 (inC a s)) (hs : s.size ≤ 1099511627776) (hn : a + n ≤ 8 * s.size) (h64 : n ≤ 64) :
    Calls Try.prog 53 #[.pointer (some ⟨g, 0, none⟩), .int .i64 (n : Int)] w fun e w' => e = .returned (.int .u64 (gb s a n : Nat)) ∧ Blk w' g 118 (inC (a + n) s) ∧ w.grownBy w' (some g) := by
  have k1 := may_ok g a n s w h hs hn
  have t1 : decide ((0 : Int) ≤ (n : Int)) = true := by simp
  have t2 : decide ((n : Int) ≤ 64) = true := by simp; omega
  have HB := Lib.hid h
  clear h
  go_enter Try.func53, Try.ntmps53
  go_wp2_with fail
  (with_reducible refine (k1).mono ?_); rintro e1 W1 ⟨rfl, rfl⟩
  go_wp2_with fail
  go_loopw [5, 18] (fun x i wr => ∃ k : Nat, k ≤ n ∧ i = .int .i64 k ∧ x = .int .u64 (gb s a k : Nat) ∧ Hid (Blk wr g 118 (inC (a + k) s) ∧ w.grownBy wr (some g))) (fun _ i _ => n - (intOf i).toNat)
  case atStart => exact ⟨0, by omega, rfl, rfl, Lib.hid ⟨HB.out, only_refl _ _⟩⟩
  case round =>
    obtain ⟨k, hk, rfl, rfl, hB⟩ := hrel
    by_cases hkn : k < n
    · have t0 : decide ((k : Int) < (n : Int)) = true := by simp; omega
      obtain ⟨A, hA⟩ : ∃ A, a + k = A := ⟨_, rfl⟩
      rw [hA] at hB
      have HA := Lib.hid hA
      have hAs : A < 8 * s.size := by omega
      have hB1 := hB.out.1
      have c0 := fun pX => Blk.cell (blk_ext (hB1) pX) 0 (v := .int .i64 (A : Int)) rfl
      have c2 := fun pX => Blk.cell (blk_ext (hB1) pX) 2 (v := .string s) rfl
      have z0 : (0 : Int) ≤ (A : Int) := by omega
      have z1 : (A : Int) ≤ 8796093022208 := by omega
      have ix : ∀ V : World, (Instr.index 9 (.string s) (.int .i64 ((A : Int) / 8))).run Try.prog V = .ok (.int .u8 (at' s (A / 8))) V := fun V => by
        have := idx_at s (A / 8) (by omega) V
        rw [show ((A / 8 : Nat) : Int) = (A : Int) / 8 by omega] at this
        exact this
      have qb : bits .and .u8 (at' s (A / 8) / 2 ^ (7 - A % 8)) 1 = (bitS s A : Int) := and1 s A
      have hG := gb_lt s a k
      have hG2 : 2 ^ k ≤ 2 ^ 63 := Nat.pow_le_pow_right (by decide) (by omega)
      have hb := bitS_lt s A
      have HN := Lib.hid (show gb s a (k + 1) = 2 * gb s a k + bitS s A by rw [gb, hA])
      obtain ⟨G, hGe⟩ : ∃ G, gb s a k = G := ⟨_, rfl⟩
      obtain ⟨B, hBe⟩ : ∃ B, bitS s A = B := ⟨_, rfl⟩
      rw [hGe] at hG HN ⊢
      rw [hBe] at qb HN hb
      have q1 : IntKind.u64.wrap ((G : Int) * 2) = (G : Int) * 2 := by rw [IntKind.wrap_u64]; omega
      have q2 : IntKind.u64.wrap (B : Int) = (B : Int) := by rw [IntKind.wrap_u64]; omega
      have q3 : bits .or .u64 ((G : Int) * 2) (B : Int) = ((2 * G + B : Nat) : Int) := or2 G B (by omega) hb
      clear hG hG2 hGe hBe hA hAs hn
      go_wp2_with fail
      refine Go.Proofs.Ytfadhgbhdoddpaa.Q.region_ext (by kernel_rfl) (by kernel_rfl) ?_
      repeat (go_big_quiet_step (fail))
      refine wpQuiet_nil ?_
      rintro w9 ⟨pq, rfl⟩
      have hB2 := blk_ext hB1 pq
      have HG2 := Lib.hid (hB.out.2.trans (only_of_below (below_ext wr pq) _))
      have d0 := Blk.cell (hB2) 0 (v := .int .i64 (A : Int)) rfl
      have df0 := Blk.frozen (hB2) 0
      clear c0 c2 hB hB1 ix qb
      go_wp2_with fail
      go_roundw
      case rel => exact ⟨k + 1, by omega, by go_num, by rw [HN.out]; go_num, Lib.hid ⟨by
        have := Blk.set_ hB2 0 (.int .i64 ((A : Int) + 1))
        rw [show a + (k + 1) = A + 1 by rw [← HA.out]; omega]
        exact this, only_set HG2.out 0 _⟩⟩
      case measure => simp [intOf]; omega
    · obtain rfl : k = n := by omega
      have hB1 := hB.out
      go_wp2_with fail
      go_ret
      exact ⟨rfl, hB1.1, hB1.2⟩
end Go.Proofs.Ytfadhgbhdoddpaa.BiA
