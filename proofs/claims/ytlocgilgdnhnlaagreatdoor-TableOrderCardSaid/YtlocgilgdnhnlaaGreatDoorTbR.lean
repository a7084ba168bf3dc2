/- table: Parity, Pad, Clear. -/
import Derived.Test.YtlocgilgdnhnlaaGreatDoorTbQ
namespace Go.Proofs.YtlocgilgdnhnlaaGreatDoor.TbR
open Go Go.RowKit Go.Proofs.YtlocgilgdnhnlaaGreatDoor.Q Go.Proofs.YtlocgilgdnhnlaaGreatDoor.Mem Go.Proofs.YtlocgilgdnhnlaaGreatDoor.Rg Go.Proofs.YtlocgilgdnhnlaaGreatDoor.Ap Go.Proofs.YtlocgilgdnhnlaaGreatDoor.ApG Go.Proofs.YtlocgilgdnhnlaaGreatDoor.St Go.Proofs.YtlocgilgdnhnlaaGreatDoor.BiW Go.Proofs.YtlocgilgdnhnlaaGreatDoor.Tab Go.Proofs.YtlocgilgdnhnlaaGreatDoor.TlS Go.Proofs.YtlocgilgdnhnlaaGreatDoor.Fl Go.Proofs.YtlocgilgdnhnlaaGreatDoor.TbM Go.Proofs.YtlocgilgdnhnlaaGreatDoor.TbN Go.Proofs.YtlocgilgdnhnlaaGreatDoor.TbO Go.Proofs.YtlocgilgdnhnlaaGreatDoor.TbP Go.Proofs.YtlocgilgdnhnlaaGreatDoor.SeEq

set_option maxRecDepth 100000
def parE (R : Nat) (n : Int) (s : ByteArray) : Int := if n < 0 ∨ 64 ≤ n then 15 else if s.size ≠ R then 12 else 0
def parS (S : Tb) (n : Int) (s : ByteArray) : Tb := if parE S.R n s ≠ 0 then S else laid S ((191 + n.toNat) * S.R) s s.size
set_option maxHeartbeats 1600000 in
theorem parity_any (w : World) (B gt gr : Nat) (v : Value) (S : Tb) (n : Int) (s : ByteArray) (h : TbIn w B gt gr v S) (hok : Ok S) :
    Calls Tryz.prog 17 #[.pointer (some ⟨gt, 0, none⟩), .int .i64 n, .string s] w fun e w' => e = .returned (.int .i64 (parE S.R n s)) ∧ TbIn w' B gt gr v (parS S n s) ∧ Kept (foot gt gr v) w w' := by
  have c0 := Blk.cell h.box 0 (v := .slice (some ⟨gr, 0, none⟩) S.R S.R) rfl
  by_cases h0 : n < 0
  · have t0 : decide (n < 0) = true := decide_eq_true h0
    have HE := Lib.hid (show parE S.R n s = 15 from if_pos (Or.inl h0))
    have HS := Lib.hid (show parS S n s = S from if_pos (by rw [HE.out]; decide))
    clear h0 hok c0
    go_enter Tryz.func17, Tryz.ntmps17
    go_wp2_with fail
    go_ret
    exact ⟨by rw [HE.out]; rfl, by rw [HS.out]; exact h, Kept.refl _ _⟩
  · have t0 : decide (n < 0) = false := decide_eq_false h0
    by_cases h1 : 64 ≤ n
    · have t1 : decide (64 ≤ n) = true := decide_eq_true h1
      have HE := Lib.hid (show parE S.R n s = 15 from if_pos (Or.inr h1))
      have HS := Lib.hid (show parS S n s = S from if_pos (by rw [HE.out]; decide))
      clear h0 h1 hok c0
      go_enter Tryz.func17, Tryz.ntmps17
      go_wp2_with fail
      go_ret
      exact ⟨by rw [HE.out]; rfl, by rw [HS.out]; exact h, Kept.refl _ _⟩
    · have t1 : decide (64 ≤ n) = false := decide_eq_false h1
      by_cases h2 : s.size = S.R
      · obtain ⟨m, rfl⟩ := Int.eq_ofNat_of_zero_le (Int.not_lt.1 h0)
        have t2 : (s.size == S.R) = true := beq_iff_eq.2 h2
        have HE := Lib.hid (show parE S.R m s = 0 from by unfold parE; rw [if_neg (by omega), if_neg (by simpa using h2)])
        have HS := Lib.hid (show parS S m s = laid S ((191 + m) * S.R) s S.R from by
          unfold parS
          rw [HE.out, if_neg (by simp), h2]
          rfl)
        have hm : m < 64 := by omega
        have HZ := Lib.hid h2
        obtain ⟨R, hR⟩ : ∃ R, S.R = R := ⟨_, rfl⟩
        have HR := Lib.hid hR
        have hR9 : R ≤ 1024 := by have := hok.R; omega
        rw [hR] at c0 t2
        have k0 : (0 : Int) ≤ (m : Int) := Int.natCast_nonneg _
        have k1 : (m : Int) ≤ 64 := by omega
        have HH := Lib.hid h
        rw [hR] at HZ
        clear h0 h1 h2 hok hR
        have t3 : ((s.size : Int) == (R : Int)) = true := by rw [HZ.out]; simp
        have t5 : ((s.size : Int) != (R : Int)) = false := by rw [HZ.out]; simp
        have t6 : (s.size != R) = false := by rw [HZ.out]; simp
        go_enter Tryz.func17, Tryz.ntmps17
        go_wp2_with fail
        go_loopw [32] (fun i wr => ∃ k : Nat, k ≤ R ∧ i = .int .i64 k ∧ Hid (TbIn wr B gt gr v (laid S ((191 + m) * S.R) s k)) ∧ Hid (Kept (foot gt gr v) w wr)) (fun i _ => R - (intOf i).toNat)
        case atStart => exact ⟨0, by omega, rfl, Lib.hid (by rw [laid_zero]; exact h), Lib.hid (Kept.refl _ _)⟩
        case round =>
          obtain ⟨k, hk, rfl, HT, HK⟩ := hrel
          by_cases hkn : k < R
          · have u0 : decide (k < R) = true := decide_eq_true hkn
            have hi : ∀ V, (Instr.index 9 (.string s) (.int .i64 (k : Int))).run Tryz.prog V = .ok (.int .u8 ((sb s k).toNat : Int)) V := fun V => idx_at s k (by rw [HZ.out]; exact hkn) V
            have c1 := fun p => Blk.cell (blk_ext HT.out.box p) 0 (v := .slice (some ⟨gr, 0, none⟩) S.R S.R) rfl
            rw [HR.out] at c1
            have q1 : (0 : Int) ≤ (k : Int) := Int.natCast_nonneg _
            have q2 : (k : Int) < (R : Int) := by omega
            go_wp2_with fail
            refine Go.Proofs.YtlocgilgdnhnlaaGreatDoor.Q.region_ext_tail 11 (by kernel_rfl) (by kernel_rfl) ?_
            simp only [List.take_succ_cons, List.take_zero, List.drop_succ_cons, List.drop_zero]
            repeat (go_big_quiet_step (fail))
            refine wpQuiet_nil ?_
            rintro w9 ⟨pq, rfl⟩
            have HT2 := Lib.hid (HT.out.below (below_ext wr pq))
            have HK2 := Lib.hid (HK.out.then ((below_ext wr pq).mono HK.out.size))
            have kst := set_any (ext wr pq) B gt gr k (191 + m) v (laid S ((191 + m) * S.R) s k) (sb s k) HT2.out (by omega) (by show k < S.R; rw [HR.out]; exact hkn)
            rw [show (laid S ((191 + m) * S.R) s k).R = S.R from rfl, laid_step, show ((191 + m : Nat) : Int) = 191 + (m : Int) by omega] at kst
            clear c1 HT HK
            go_wp2_with fail
            (with_reducible refine (kst).mono ?_); rintro e3 W3 ⟨rfl, ht3, hk3⟩
            have HK3 := Lib.hid (HK2.out.trans hk3 (fun i _ e => Or.inr (Or.inl e)))
            have HT3 := Lib.hid ht3
            clear kst ht3 hk3 HT2 HK2
            go_wp2_with fail
            go_roundw
            case rel => exact ⟨k + 1, by omega, by go_num, HT3, HK3⟩
            case measure => simp [intOf]; omega
          · obtain rfl : k = R := by omega
            have u0 : decide (k < k) = false := by simp
            go_wp2_with fail
            go_ret
            exact ⟨by rw [HE.out]; rfl, by rw [HS.out, HR.out]; have := HT.out; rw [HR.out] at this; exact this, HK.out⟩
      · have t2 : (s.size == S.R) = false := beq_eq_false_iff_ne.2 h2
        have t3 : ((s.size : Int) == (S.R : Int)) = false := beq_eq_false_iff_ne.2 (by omega)
        have HE := Lib.hid (show parE S.R n s = 12 from by unfold parE; rw [if_neg (by omega), if_pos h2])
        have HS := Lib.hid (show parS S n s = S from if_pos (by rw [HE.out]; decide))
        obtain ⟨R, hR⟩ : ∃ R, S.R = R := ⟨_, rfl⟩
        rw [hR] at c0 t2 t3
        clear h0 h1 h2 hok hR
        go_enter Tryz.func17, Tryz.ntmps17
        go_wp2_with fail
        go_ret
        exact ⟨by rw [HE.out]; rfl, by rw [HS.out]; exact h, Kept.refl _ _⟩
def padE (n : Int) : Int := if n < 0 ∨ 191 < n then 15 else 0
def padS (S : Tb) (n : Int) : Tb := if padE n ≠ 0 then S else { S with is := fun p => if (191 - n.toNat) * S.R ≤ p ∧ p < 191 * S.R then true else S.is p }
/-- columns from a on: rows below i, and row i below column c -/
def padI (S : Tb) (a i c : Nat) : Tb := { S with is := fun p => if a ≤ p / S.R ∧ p / S.R < 191 ∧ (p % S.R < i ∨ p % S.R = i ∧ p / S.R < c) then true else S.is p }
theorem padI_zero (S : Tb) (a : Nat) : padI S a 0 a = S := by
  unfold padI
  have h : ∀ p, ¬ (a ≤ p / S.R ∧ p / S.R < 191 ∧ (p % S.R < 0 ∨ p % S.R = 0 ∧ p / S.R < a)) := fun p => by omega
  simp only [h, if_false]
theorem padI_mark (S : Tb) (a i c : Nat) (hi : i < S.R) (hac : a ≤ c) (hc : c < 191) : (padI S a i c).mark (c * S.R + i) = padI S a i (c + 1) := by
  unfold padI Tb.mark
  dsimp only
  congr 1
  funext p
  have hd : p = c * S.R + i ↔ p / S.R = c ∧ p % S.R = i := by
    constructor
    · rintro rfl
      exact ⟨by rw [Nat.mul_comm, Nat.mul_add_div (by omega), Nat.div_eq_of_lt hi]; omega, by rw [Nat.mul_comm, Nat.mul_add_mod, Nat.mod_eq_of_lt hi]⟩
    · rintro ⟨h1, h2⟩
      rw [← h1, ← h2, Nat.mul_comm]
      exact (Nat.div_add_mod p S.R).symm
  by_cases h : p = c * S.R + i
  · rw [if_pos h]
    obtain ⟨h1, h2⟩ := hd.1 h
    rw [if_pos (by omega)]
  · rw [if_neg h]
    have h' := fun h1 => h (hd.2 h1)
    by_cases h1 : a ≤ p / S.R ∧ p / S.R < 191 ∧ (p % S.R < i ∨ p % S.R = i ∧ p / S.R < c)
    · rw [if_pos h1, if_pos (by omega)]
    · rw [if_neg h1, if_neg (by omega)]
theorem padI_next (S : Tb) (a i : Nat) : padI S a i 191 = padI S a (i + 1) a := by
  unfold padI
  congr 1
  funext p
  by_cases h1 : a ≤ p / S.R ∧ p / S.R < 191 ∧ (p % S.R < i ∨ p % S.R = i ∧ p / S.R < 191)
  · rw [if_pos h1, if_pos (by omega)]
  · rw [if_neg h1, if_neg (by omega)]
theorem padI_end (S : Tb) (n : Nat) (hR : 0 < S.R) (hn : n ≤ 191) : padI S (191 - n) S.R (191 - n) = padS S n := by
  have hE : padE n = 0 := if_neg (by omega)
  unfold padI padS
  rw [hE, if_neg (by simp), Int.toNat_natCast]
  congr 1
  funext p
  have h0 : p % S.R < S.R := Nat.mod_lt _ hR
  have h1 : (191 - n) * S.R ≤ p ↔ 191 - n ≤ p / S.R := (Nat.le_div_iff_mul_le hR).symm
  have h2 : p < 191 * S.R ↔ p / S.R < 191 := (Nat.div_lt_iff_lt_mul hR).symm
  by_cases h : 191 - n ≤ p / S.R ∧ p / S.R < 191 ∧ (p % S.R < S.R ∨ p % S.R = S.R ∧ p / S.R < 191 - n)
  · rw [if_pos h, if_pos ⟨h1.2 h.1, h2.2 h.2.1⟩]
  · rw [if_neg h, if_neg (fun h3 => h ⟨h1.1 h3.1, h2.1 h3.2, Or.inl h0⟩)]
set_option maxHeartbeats 1600000 in
theorem pad_any (w : World) (B gt gr : Nat) (v : Value) (S : Tb) (n : Int) (h : TbIn w B gt gr v S) (hok : Ok S) :
    Calls Tryz.prog 13 #[.pointer (some ⟨gt, 0, none⟩), .int .i64 n] w fun e w' => e = .returned (.int .i64 (padE n)) ∧ TbIn w' B gt gr v (padS S n) ∧ Kept (foot gt gr v) w w' := by
  have c0 := Blk.cell h.box 0 (v := .slice (some ⟨gr, 0, none⟩) S.R S.R) rfl
  by_cases h0 : n < 0
  · have t0 : decide (n < 0) = true := decide_eq_true h0
    have HE := Lib.hid (show padE n = 15 from if_pos (Or.inl h0))
    have HS := Lib.hid (show padS S n = S from if_pos (by rw [HE.out]; decide))
    clear h0 hok c0
    go_enter Tryz.func13, Tryz.ntmps13
    go_wp2_with fail
    go_ret
    exact ⟨by rw [HE.out]; rfl, by rw [HS.out]; exact h, Kept.refl _ _⟩
  · have t0 : decide (n < 0) = false := decide_eq_false h0
    by_cases h1 : 191 < n
    · have t1 : decide (191 < n) = true := decide_eq_true h1
      have HE := Lib.hid (show padE n = 15 from if_pos (Or.inr h1))
      have HS := Lib.hid (show padS S n = S from if_pos (by rw [HE.out]; decide))
      clear h0 h1 hok c0
      go_enter Tryz.func13, Tryz.ntmps13
      go_wp2_with fail
      go_ret
      exact ⟨by rw [HE.out]; rfl, by rw [HS.out]; exact h, Kept.refl _ _⟩
    · have t1 : decide (191 < n) = false := decide_eq_false h1
      obtain ⟨m, rfl⟩ := Int.eq_ofNat_of_zero_le (Int.not_lt.1 h0)
      have hm : m ≤ 191 := by omega
      have HE := Lib.hid (show padE m = 0 from if_neg (by omega))
      have HS := Lib.hid (show padS S m = padI S (191 - m) S.R (191 - m) from (padI_end S m hok.R0 hm).symm)
      obtain ⟨R, hR⟩ : ∃ R, S.R = R := ⟨_, rfl⟩
      have HR := Lib.hid hR
      have hR9 : R ≤ 1024 := by have := hok.R; omega
      rw [hR] at c0
      have k0 : (0 : Int) ≤ (m : Int) := Int.natCast_nonneg _
      have k1 : (m : Int) ≤ 191 := by omega
      obtain ⟨a, ha⟩ : ∃ a, 191 - m = a := ⟨_, rfl⟩
      have HA := Lib.hid (show (191 : Int) - (m : Int) = (a : Int) from by omega)
      rw [ha] at HS
      have ha9 : a ≤ 191 := by omega
      clear h0 h1 hok hR ha
      go_enter Tryz.func13, Tryz.ntmps13
      go_wp2_with fail
      go_loopw [22] (fun i wr => ∃ k : Nat, k ≤ R ∧ i = .int .i64 k ∧ Hid (TbIn wr B gt gr v (padI S a k a)) ∧ Hid (Kept (foot gt gr v) w wr)) (fun i _ => R - (intOf i).toNat)
      case atStart => exact ⟨0, by omega, rfl, Lib.hid (by rw [padI_zero]; exact h), Lib.hid (Kept.refl _ _)⟩
      case round =>
        obtain ⟨k, hk, rfl, HT, HK⟩ := hrel
        by_cases hkn : k < R
        · have u0 : decide (k < R) = true := decide_eq_true hkn
          have q1 : (0 : Int) ≤ (k : Int) := Int.natCast_nonneg _
          have q2 : (k : Int) < (R : Int) := by omega
          go_wp2_with fail
          rw [HA.out]
          go_loopw [6] (fun cv wi => ∃ c : Nat, a ≤ c ∧ c ≤ 191 ∧ cv = .int .i64 c ∧ Hid (TbIn wi B gt gr v (padI S a k c)) ∧ Hid (Kept (foot gt gr v) w wi)) (fun cv _ => 191 - (intOf cv).toNat)
          case atStart => exact ⟨a, by omega, by omega, rfl, HT, HK⟩
          case round =>
            clear HT HK
            obtain ⟨c, hac, hc, rfl, HT, HK⟩ := hrel
            by_cases hcn : c < 191
            · have u1 : decide ((c : Int) < 191) = true := decide_eq_true (by omega)
              have c1 := Blk.cell HT.out.box 0 (v := .slice (some ⟨gr, 0, none⟩) S.R S.R) rfl
              rw [HR.out] at c1
              have hrr : (k + 1) * 510 ≤ R * 510 := Nat.mul_le_mul_right _ hkn
              have r1 := HT.out.rows.cell (k * 510 + 255 + c) (by show _ < S.R * 510; rw [HR.out]; omega)
              have r2 := HT.out.rows.frozen (k * 510 + 255 + c)
              have q3 : (0 : Int) ≤ (c : Int) := Int.natCast_nonneg _
              have q4 : (c : Int) < 255 := by omega
              have HT2 := Lib.hid (show TbIn (wr.setCell ⟨gr, k * 510 + 255 + c, none⟩ (.bool true)) B gt gr v (padI S a k (c + 1)) from by
                refine tb_rows HT.out (kept_set rfl) rfl rfl ?_
                have hp := HT.out.rows.put (k * 510 + 255 + c) (.bool true)
                refine hp.congr (fun j hj => ?_)
                have := rowF_mark (padI S a k c) k c (by show k < S.R; rw [HR.out]; exact hkn) (by omega) j hj
                rw [show (padI S a k c).R = S.R from rfl, padI_mark S a k c (by rw [HR.out]; exact hkn) hac hcn] at this
                exact this)
              have HK2 := Lib.hid (show Kept (foot gt gr v) w (wr.setCell ⟨gr, k * 510 + 255 + c, none⟩ (.bool true)) from HK.out.trans (kept_set (F := foot gt gr v) (Or.inr (Or.inl rfl))) (fun _ _ h => h))
              clear HT HK hrr
              go_wp2_with fail
              go_roundw
              case rel => exact ⟨c + 1, by omega, by omega, by go_num, HT2, HK2⟩
              case measure => simp [intOf]; omega
            · obtain rfl : c = 191 := by omega
              have u1 : decide (((191 : Nat) : Int) < 191) = false := by decide
              have HT2 := Lib.hid (show TbIn wr B gt gr v (padI S a (k + 1) a) from by rw [← padI_next]; exact HT.out)
              clear HT
              go_wp2_with fail
              go_roundw
              case rel => exact ⟨k + 1, by omega, by go_num, HT2, HK⟩
              case measure => simp [intOf]; omega
        · obtain rfl : k = R := by omega
          have u0 : decide (k < k) = false := by simp
          go_wp2_with fail
          go_ret
          exact ⟨by rw [HE.out]; rfl, by rw [HS.out, HR.out]; exact HT.out, HK.out⟩
end Go.Proofs.YtlocgilgdnhnlaaGreatDoor.TbR
