/- The document's check sum, walked: More, Sum, Four, Seal. -/
import Derived.Test.YtfadhgbhdoddpaaCrC
namespace Go.Proofs.Ytfadhgbhdoddpaa.CrD
open Go Go.RowKit Go.Proofs.Ytfadhgbhdoddpaa.Q Go.Proofs.Ytfadhgbhdoddpaa.Mem Go.Proofs.Ytfadhgbhdoddpaa.Rg Go.Proofs.Ytfadhgbhdoddpaa.Ap Go.Proofs.Ytfadhgbhdoddpaa.CrP Go.Proofs.Ytfadhgbhdoddpaa.CrA Go.Proofs.Ytfadhgbhdoddpaa.CrB Go.Proofs.Ytfadhgbhdoddpaa.CrC Go.Proofs.Ytfadhgbhdoddpaa.St

theorem units : ∀ k, k < 8 → 128 / 2 ^ k = 2 ^ (7 - k) := by decide
theorem unit_pos : ∀ k, k < 8 → 1 ≤ 128 / 2 ^ k ∧ 128 / 2 ^ k ≤ 128 := by decide
theorem unit_next (k : Nat) : 128 / 2 ^ (k + 1) = 128 / 2 ^ k / 2 := by rw [Nat.pow_succ, Nat.div_div_eq_div_mul]
theorem msb_u (x : BitVec 32) : decide (2147483648 ≤ u x) = x.msb := by
  rw [BitVec.msb_eq_decide]
  unfold u
  rw [decide_eq_decide]
  constructor <;> (intro h; simp at h ⊢; omega)
set_option maxRecDepth 100000
set_option maxHeartbeats 1600000 in
theorem rmore_any (x : BitVec 32) (s : ByteArray) (w : World) (hs : s.size ≤ 1099511627776) :
    Calls Try.prog 66 #[.int .u32 (u x), .string s] w fun e w' => e = .returned (.int .u32 (u (crc x (bl s)))) ∧ w = w' := by
  go_enter Try.func66, Try.ntmps66
  go_wp2_with fail
  go_loop [0, 5] (fun v i => ∃ j : Nat, j ≤ s.size ∧ i = .int .i64 j ∧ v = .int .u32 (u (crc x ((bl s).take j)))) (fun _ i => s.size - (intOf i).toNat)
  case atStart => exact ⟨0, by omega, rfl, rfl⟩
  case round =>
    obtain ⟨j, hj, rfl, rfl⟩ := hrel
    by_cases hjs : j < s.size
    · have t1 : decide ((j : Int) < (s.size : Int)) = true := by simp; omega
      obtain ⟨b, hb, hat⟩ := byte_at s j hjs
      have ix : ∀ V : World, (Instr.index 9 (.string s) (.int .i64 (j : Int))).run Try.prog V = .ok (.int .u8 (b.toNat : Int)) V := fun V => by rw [idx_at s j hjs V, hat]
      obtain ⟨Y, hY⟩ : ∃ Y, crc x ((bl s).take j) = Y := ⟨_, rfl⟩
      have HY := Lib.hid (show crc x ((bl s).take (j + 1)) = bs Y b by rw [take_snoc hb, crc_app, hY]; rfl)
      rw [hY]
      have hb2 := UInt8.toNat_lt b
      have q1 : IntKind.i64.wrap (b.toNat : Int) = (b.toNat : Int) := by rw [IntKind.wrap_i64]; omega
      clear hb hat hY
      go_wp2_with fail
      go_loop [0, 6, 7] (fun v t i => ∃ k : Nat, k ≤ 8 ∧ i = .int .i64 k ∧ t = .int .i64 ((128 / 2 ^ k : Nat) : Int) ∧ v = .int .u32 (u (rbN Y b k))) (fun _ _ i => 8 - (intOf i).toNat)
      case atStart => exact ⟨0, by omega, rfl, rfl, rfl⟩
      case round =>
        obtain ⟨k, hk, rfl, rfl, rfl⟩ := hrel
        by_cases hk8 : k < 8
        · have t2 : decide ((k : Int) < 8) = true := by simp; omega
          obtain ⟨u1, u2⟩ := unit_pos k hk8
          have hun := units k hk8
          obtain ⟨U, hU⟩ : ∃ U, 128 / 2 ^ k = U := ⟨_, rfl⟩
          have HN := Lib.hid (show 128 / 2 ^ (k + 1) = U / 2 by rw [unit_next, hU])
          have hbit : (((b.toNat : Int) / (U : Int)).tmod 2 == 1) = b.toNat.testBit (7 - k) := by
            rw [Int.tmod_eq_emod_of_nonneg (Int.ediv_nonneg (by omega) (by omega)), Nat.testBit_eq_decide_div_mod_eq, ← hun, hU]
            rw [show (b.toNat : Int) / (U : Int) % 2 = ((b.toNat / U % 2 : Nat) : Int) by simp]
            by_cases h1 : b.toNat / U % 2 = 1 <;> simp [h1] <;> omega
          rw [hU] at u1 u2 ⊢
          obtain ⟨R, hR⟩ : ∃ R, rbN Y b k = R := ⟨_, rfl⟩
          have HR := Lib.hid (show rbN Y b (k + 1) = rb R (b.toNat.testBit (7 - k)) by rw [rbN, hR])
          rw [hR]
          have m1 := msb_u R
          have s1 := shl1_u R
          have x1 := xor_u (R <<< 1) poly
          rw [show u poly = 79764919 by decide] at x1
          have z1 : (1 : Int) ≤ (U : Int) := by omega
          have z2 : (U : Int) ≤ 128 := by omega
          have z3 : (0 : Int) ≤ (b.toNat : Int) := by omega
          have z4 : (b.toNat : Int) ≤ 255 := by omega
          have hz : ((U / 2 : Nat) : Int) = (U : Int) / 2 := by simp
          have HZ := Lib.hid hz
          obtain ⟨B, hB⟩ : ∃ B, (b.toNat : Int) = B := ⟨_, rfl⟩
          rw [hB] at ix q1 hbit z3 z4
          clear hU hun hR hz hB hb2 u1 u2
          cases hm : R.msb <;> cases hbb : b.toNat.testBit (7 - k)
          all_goals
            rw [hm] at m1
            rw [hbb] at hbit HR
            have HS := Lib.hid (show u (rb R (b.toNat.testBit (7 - k))) = u ((R <<< 1) ^^^ (if R.msb != b.toNat.testBit (7 - k) then poly else 0#32)) from rfl)
            rw [hm, hbb] at HS
            simp only [bne_self_eq_false, Bool.false_eq_true, if_false, if_true, BitVec.xor_zero, Bool.true_bne, Bool.false_bne, Bool.not_false] at HS
            clear hm hbb
            go_wp2_with fail
            go_round
            case rel => exact ⟨k + 1, by omega, by go_num, by rw [HN.out, HZ.out], by rw [HR.out, HS.out]⟩
            case measure => simp [intOf]; omega
        · obtain rfl : k = 8 := by omega
          have t2 : decide (((8 : Nat) : Int) < 8) = false := by decide
          rw [rbN_bs]
          clear ix hb2 q1
          go_wp2_with fail
          go_round
          case rel => exact ⟨j + 1, by omega, by go_num, by rw [HY.out]⟩
          case measure => simp [intOf]; omega
    · obtain rfl : j = s.size := by omega
      have t1 : decide ((s.size : Int) < (s.size : Int)) = false := by simp
      rw [show (bl s).take s.size = bl s by rw [← bl_len, List.take_length]]
      go_wp2_with fail
      go_ret
      exact ⟨rfl, rfl⟩
theorem rsum_any (s : ByteArray) (w : World) (hs : s.size ≤ 1099511627776) :
    Calls Try.prog 49 #[.string s] w fun e w' => e = .returned (.int .u32 (u (sumL (bl s)))) ∧ w = w' := by
  have k1 := rmore_any 4294967295#32 s w hs
  rw [show u 4294967295#32 = 4294967295 by decide, show crc 4294967295#32 (bl s) = sumL (bl s) from rfl] at k1
  go_enter Try.func49, Try.ntmps49
  go_wp2_with fail
  (with_reducible refine (k1).mono ?_); rintro e1 W1 ⟨rfl, rfl⟩
  go_wp2_with fail
  go_ret
  exact ⟨rfl, rfl⟩
theorem rfourN (x : BitVec 32) : IntKind.u8.wrap (u x / 16777216) = ((hi x).toNat : Int) ∧ IntKind.u8.wrap (u x / 65536 % 256) = ((hi (x <<< 8)).toNat : Int) ∧ IntKind.u8.wrap (u x / 256 % 256) = ((hi (x <<< 16)).toNat : Int) ∧ IntKind.u8.wrap (u x % 256) = ((hi (x <<< 24)).toNat : Int) := by
  have := x.isLt
  rw [IntKind.wrap_u8, IntKind.wrap_u8, IntKind.wrap_u8, IntKind.wrap_u8, hi_toNat, hi_toNat, hi_toNat, hi_toNat, BitVec.toNat_shiftLeft, BitVec.toNat_shiftLeft, BitVec.toNat_shiftLeft, Nat.shiftLeft_eq, Nat.shiftLeft_eq, Nat.shiftLeft_eq]
  unfold u
  omega
theorem rfour_any (X : BitVec 32) (w : World) :
    Calls Try.prog 48 #[.int .u32 (u X)] w fun e w' => e = .returned (.string (str (four X))) ∧ Below w.heap.size w w' := by
  obtain ⟨q1, q2, q3, q4⟩ := rfourN X
  have HF := Lib.hid (four_str X)
  obtain ⟨a, ha⟩ : ∃ a, ((hi X).toNat : Int) = a := ⟨_, rfl⟩
  obtain ⟨b, hb⟩ : ∃ a, ((hi (X <<< 8)).toNat : Int) = a := ⟨_, rfl⟩
  obtain ⟨c, hc⟩ : ∃ a, ((hi (X <<< 16)).toNat : Int) = a := ⟨_, rfl⟩
  obtain ⟨d, hd⟩ : ∃ a, ((hi (X <<< 24)).toNat : Int) = a := ⟨_, rfl⟩
  rw [ha, hb, hc, hd] at HF
  rw [ha] at q1
  rw [hb] at q2
  rw [hc] at q3
  rw [hd] at q4
  have hr := u_range X
  obtain ⟨x, hx⟩ : ∃ x, u X = x := ⟨_, rfl⟩
  rw [hx] at q1 q2 q3 q4 hr ⊢
  obtain ⟨r1, r2⟩ := hr
  have kc := conv_new w [a, b, c, d] 4 w.heap.size #[.int .u8 a, .int .u8 b, .int .u8 c, .int .u8 d] rfl rfl rfl
  clear ha hb hc hd hx
  go_enter Try.func48, Try.ntmps48
  go_wp2_with fail
  go_ret
  exact ⟨by rw [← HF.out]; rfl, (Below.refl _ _).alloc (Nat.le_refl _) _⟩
theorem rseal_any (s : ByteArray) (w : World) (hs : s.size ≤ 1099511627776) :
    Calls Try.prog 29 #[.string s] w fun e w' => e = .returned (.string (str (sealL (bl s)))) ∧ Below w.heap.size w w' := by
  have k1 := rsum_any s w hs
  obtain ⟨X, hX⟩ : ∃ X, sumL (bl s) = X := ⟨_, rfl⟩
  have HE := Lib.hid (show str (sealL (bl s)) = s ++ str (four X) by
    unfold sealL; rw [hX, ← str_app, str_bl])
  rw [hX] at k1
  have k2 := rfour_any X w
  have hadd := fun U => add_at s (str (four X)) (by rw [str_size]; simp [four]; omega) U
  clear hX
  go_enter Try.func29, Try.ntmps29
  go_wp2_with fail
  (with_reducible refine (k1).mono ?_); rintro e1 W1 ⟨rfl, rfl⟩
  go_wp2_with fail
  (with_reducible refine (k2).mono ?_); rintro e1 W2 ⟨rfl, hb2⟩
  go_wp2_with fail
  go_ret
  exact ⟨by rw [HE.out]; rfl, hb2⟩
end Go.Proofs.Ytfadhgbhdoddpaa.CrD
