/- The document's Sum and Peek of a datagram. -/
import Derived.Test.YtfadhgbhdoddpaaDgC
namespace Go.Proofs.Ytfadhgbhdoddpaa.DgD
open Go Go.RowKit Go.Proofs.Ytfadhgbhdoddpaa.Q Go.Proofs.Ytfadhgbhdoddpaa.Mem Go.Proofs.Ytfadhgbhdoddpaa.Rg Go.Proofs.Ytfadhgbhdoddpaa.Ap Go.Proofs.Ytfadhgbhdoddpaa.St Go.Proofs.Ytfadhgbhdoddpaa.BiH Go.Proofs.Ytfadhgbhdoddpaa.SeI Go.Proofs.Ytfadhgbhdoddpaa.SeEq Go.Proofs.Ytfadhgbhdoddpaa.DgP Go.Proofs.Ytfadhgbhdoddpaa.DgB Go.Proofs.Ytfadhgbhdoddpaa.DgC

set_option maxRecDepth 100000
theorem rsum_any (s : ByteArray) (w : World) (hs : s.size ≤ 1099511627776) : Calls Try.prog 44 #[.string s] w fun e w' => e = .returned (.int .i64 (dsum s : Int)) ∧ w = w' := by
  obtain ⟨R, hR⟩ : ∃ R : Ending → World → Prop, R = (fun e w' => e = .returned (.int .i64 (dsum s : Int)) ∧ w = w') := ⟨_, rfl⟩
  rw [← hR]
  have HRR := Lib.hid hR
  clear hR
  go_enter Try.func44, Try.ntmps44
  go_wp2_with fail
  go_loopw [3, 4] (fun n i wr => ∃ k m : Nat, i = .int .i64 k ∧ n = .int .i64 m ∧ m ≤ 65535 ∧ k ≤ s.size + 1 ∧ Hid ((k ≤ s.size → k % 2 = 0 ∧ m = r15 (256 * dh s k + dl s k)) ∧ (s.size ≤ k → m = r15 (256 * dh s s.size + dl s s.size))) ∧ w = wr) (fun _ i _ => s.size + 1 - (intOf i).toNat)
  case atStart => exact ⟨0, 0, rfl, rfl, by omega, by omega, Lib.hid ⟨fun _ => ⟨rfl, rfl⟩, fun h => by rw [show s.size = 0 by omega]; rfl⟩, rfl⟩
  case round =>
    obtain ⟨k, m, rfl, rfl, hm, hk, hI, rfl⟩ := hrel
    by_cases hlt : k < s.size
    · have t1 : decide ((k : Int) < (s.size : Int)) = true := by simp; omega
      obtain ⟨he, hmr⟩ := hI.out.1 (by omega)
      have i0 := fun V => idx_at s k hlt V
      rw [at0_at] at i0
      have l0 := at0_lt s k
      have hd := d_even s (k / 2)
      have hd2 := d_odd s (k / 2)
      rw [show 2 * (k / 2) = k by omega] at hd hd2
      have zm : (m : Int) ≤ 65535 := by omega
      have zk : (k : Int) ≤ 1099511627776 := by omega
      by_cases hl2 : k + 1 < s.size
      · have t2 : decide ((k : Int) + 1 < (s.size : Int)) = true := by simp; omega
        have i1 := fun V => idx_at s (k + 1) hl2 V
        rw [at0_at, show ((k + 1 : Nat) : Int) = (k : Int) + 1 by omega] at i1
        have l1 := at0_lt s (k + 1)
        obtain ⟨x, hx⟩ : ∃ x, at0 s k = x := ⟨_, rfl⟩
        obtain ⟨y, hy⟩ : ∃ y, at0 s (k + 1) = y := ⟨_, rfl⟩
        rw [hx] at i0 l0 hd2
        rw [hy] at i1 l1 hd2
        have z0 : (x : Int) ≤ 255 := by omega
        have z1 : (y : Int) ≤ 255 := by omega
        have hadd := r15_add (256 * dh s k + dl s k) (256 * x + y) (by omega)
        rw [← hd2, ← hmr] at hadd
        have hnext : ∀ m', r15 (256 * dh s (k + 2) + dl s (k + 2)) = m' → Hid ((k + 2 ≤ s.size → (k + 2) % 2 = 0 ∧ m' = r15 (256 * dh s (k + 2) + dl s (k + 2))) ∧ (s.size ≤ k + 2 → m' = r15 (256 * dh s s.size + dl s s.size))) := fun m' h => Lib.hid ⟨fun _ => ⟨by omega, h.symm⟩, fun hs2 => by
          obtain h0 : s.size = k + 2 := by omega
          rw [h0]; exact h.symm⟩
        have HN := Lib.hid hnext
        have HA := Lib.hid hadd
        clear hnext hadd hd hd2 hx hy hI hmr l0 l1
        by_cases ho : 65535 < m + (256 * x + y)
        · have t3 : decide (65535 < (m : Int) + 256 * (x : Int) + (y : Int)) = true := by simp; omega
          have HZ := Lib.hid (HA.out.trans (if_pos ho))
          have HC := Lib.hid (show (m : Int) + 256 * (x : Int) + (y : Int) - 65535 = ((m + (256 * x + y) - 65535 : Nat) : Int) by omega)
          go_wp2_with fail
          rw [HC.out]
          go_roundw
          case rel => exact ⟨k + 2, _, by go_num, rfl, by omega, by omega, HN.out _ HZ.out, trivial⟩
          case measure => simp [intOf]; omega
        · have t3 : decide (65535 < (m : Int) + 256 * (x : Int) + (y : Int)) = false := by simp; omega
          have HZ := Lib.hid (HA.out.trans (if_neg ho))
          have HC := Lib.hid (show (m : Int) + 256 * (x : Int) + (y : Int) = ((m + (256 * x + y) : Nat) : Int) by omega)
          go_wp2_with fail
          rw [HC.out]
          go_roundw
          case rel => exact ⟨k + 2, _, by go_num, rfl, by omega, by omega, HN.out _ HZ.out, trivial⟩
          case measure => simp [intOf]; omega
      · have t2 : decide ((k : Int) + 1 < (s.size : Int)) = false := by simp; omega
        obtain ⟨x, hx⟩ : ∃ x, at0 s k = x := ⟨_, rfl⟩
        rw [hx] at i0 l0 hd
        have z0 : (x : Int) ≤ 255 := by omega
        have hadd := r15_add (256 * dh s k + dl s k) (256 * x) (by omega)
        rw [← hd, ← hmr, show k + 1 = s.size by omega] at hadd
        have hks : s.size = k + 1 := by omega
        have hnext : ∀ m', r15 (256 * dh s s.size + dl s s.size) = m' → Hid ((k + 2 ≤ s.size → (k + 2) % 2 = 0 ∧ m' = r15 (256 * dh s (k + 2) + dl s (k + 2))) ∧ (s.size ≤ k + 2 → m' = r15 (256 * dh s s.size + dl s s.size))) := fun m' h => Lib.hid ⟨fun _ => by omega, fun _ => h.symm⟩
        have HN := Lib.hid hnext
        have HA := Lib.hid hadd
        clear hnext hadd hd hd2 hx hI hmr l0
        by_cases ho : 65535 < m + 256 * x
        · have t3 : decide (65535 < (m : Int) + 256 * (x : Int)) = true := by simp; omega
          have HZ := Lib.hid (HA.out.trans (if_pos ho))
          have HC := Lib.hid (show (m : Int) + 256 * (x : Int) - 65535 = ((m + 256 * x - 65535 : Nat) : Int) by omega)
          go_wp2_with fail
          rw [HC.out]
          go_roundw
          case rel => exact ⟨k + 2, _, by go_num, rfl, by omega, by omega, HN.out _ HZ.out, trivial⟩
          case measure => simp [intOf]; omega
        · have t3 : decide (65535 < (m : Int) + 256 * (x : Int)) = false := by simp; omega
          have HZ := Lib.hid (HA.out.trans (if_neg ho))
          have HC := Lib.hid (show (m : Int) + 256 * (x : Int) = ((m + 256 * x : Nat) : Int) by omega)
          go_wp2_with fail
          rw [HC.out]
          go_roundw
          case rel => exact ⟨k + 2, _, by go_num, rfl, by omega, by omega, HN.out _ HZ.out, trivial⟩
          case measure => simp [intOf]; omega
    · have t1 : decide ((k : Int) < (s.size : Int)) = false := by simp; omega
      have HE := Lib.hid (show dsum s = 65535 - m by unfold dsum; rw [← hI.out.2 (by omega)])
      have HC := Lib.hid (show ((65535 - m : Nat) : Int) = 65535 - (m : Int) by omega)
      have zm : (m : Int) ≤ 65535 := by omega
      clear hI
      go_wp2_with fail
      rw [HRR.out, HE.out, HC.out]
      exact ⟨rfl, rfl⟩
end Go.Proofs.Ytfadhgbhdoddpaa.DgD
