/- The document's Check of a datagram. -/
import Derived.Test.YtfadhgbhdoddpaaDgF
namespace Go.Proofs.Ytfadhgbhdoddpaa.DgG
open Go Go.RowKit Go.Proofs.Ytfadhgbhdoddpaa.Q Go.Proofs.Ytfadhgbhdoddpaa.Mem Go.Proofs.Ytfadhgbhdoddpaa.Rg Go.Proofs.Ytfadhgbhdoddpaa.Ap Go.Proofs.Ytfadhgbhdoddpaa.St Go.Proofs.Ytfadhgbhdoddpaa.BiH Go.Proofs.Ytfadhgbhdoddpaa.SeI Go.Proofs.Ytfadhgbhdoddpaa.SeEq Go.Proofs.Ytfadhgbhdoddpaa.DgP Go.Proofs.Ytfadhgbhdoddpaa.DgB Go.Proofs.Ytfadhgbhdoddpaa.DgC Go.Proofs.Ytfadhgbhdoddpaa.DgD Go.Proofs.Ytfadhgbhdoddpaa.DgF

set_option maxRecDepth 100000
set_option maxHeartbeats 800000 in
theorem rcheck_any (s : ByteArray) (w : World) (hs : s.size ≤ 1099511627776) : Calls Try.prog 26 #[.string s] w fun e w' => e = .returned (.int .i64 (dgE s)) ∧ Below w.heap.size w w' := by
  have kp := fun V => rpeek_any s V hs
  have hd : dgE s = if pkE s ≠ 0 then pkE s else if (s.size : Int) < (pkH s).length then 10 else if (pkH s).length < s.size then 11 else if (pkH s).ver = 4 ∧ dsum (s.extract 0 (pkH s).header.toNat) ≠ 0 then 13 else 0 := rfl
  have hok := @pk_ok s
  obtain ⟨H, hH⟩ : ∃ H, pkH s = H := ⟨_, rfl⟩
  rw [hH] at kp hd hok
  obtain ⟨E, hE⟩ : ∃ E, pkE s = E := ⟨_, rfl⟩
  rw [hE] at kp hd hok
  obtain ⟨D, hD⟩ : ∃ D, dgE s = D := ⟨_, rfl⟩
  rw [hD] at hd ⊢
  clear hH hE hD
  obtain ⟨ve, he, le, pr⟩ := H
  unfold Hd.vals at kp
  dsimp only at *
  by_cases g1 : E = 0
  · obtain ⟨hv, o1, o2, o3⟩ := hok g1
    rw [if_neg (by simpa using g1)] at hd
    subst g1
    by_cases g2 : (s.size : Int) < le
    · have t2 : decide ((s.size : Int) < le) = true := by simpa using g2
      rw [if_pos g2] at hd
      subst hd
      clear g2 hok hv o1 o2 o3
      go_enter Try.func26, Try.ntmps26
      go_wp2_with fail
      (with_reducible refine (kp _).mono ?_); rintro e1 W1 ⟨rfl, hb1⟩
      have hE := hb1.alloc hb1.size (.cells #[.int .i64 ve, .int .i64 he, .int .i64 le, .int .i64 pr] 83)
      go_wp2_with fail
      go_ret
      exact ⟨rfl, hE⟩
    · have t2 : decide ((s.size : Int) < le) = false := by simpa using g2
      rw [if_neg g2] at hd
      by_cases g3 : le < (s.size : Int)
      · have t3 : decide (le < (s.size : Int)) = true := by simpa using g3
        rw [if_pos g3] at hd
        subst hd
        clear g2 g3 hok hv o1 o2 o3
        go_enter Try.func26, Try.ntmps26
        go_wp2_with fail
        (with_reducible refine (kp _).mono ?_); rintro e1 W1 ⟨rfl, hb1⟩
        have hE := hb1.alloc hb1.size (.cells #[.int .i64 ve, .int .i64 he, .int .i64 le, .int .i64 pr] 83)
        go_wp2_with fail
        go_ret
        exact ⟨rfl, hE⟩
      · have t3 : decide (le < (s.size : Int)) = false := by simpa using g3
        rw [if_neg g3] at hd
        by_cases g4 : ve = 4
        · have t4 : (ve == 4) = true := by simpa using g4
          obtain ⟨n, rfl⟩ : ∃ n : Nat, he = (n : Int) := ⟨he.toNat, by omega⟩
          rw [Int.toNat_natCast] at hd
          have z1 : (n : Int) ≤ (s.size : Int) := by omega
          have ks := fun V => rsum_any (s.extract 0 n) V (by rw [ByteArray.size_extract]; omega)
          obtain ⟨M, hM⟩ : ∃ M, dsum (s.extract 0 n) = M := ⟨_, rfl⟩
          rw [hM] at ks hd
          have t5 : ((M : Int) != 0) = decide (M ≠ 0) := by
            by_cases hm : M = 0 <;> simp [hm]
          have HD := Lib.hid hd
          clear g2 g3 hok hv o1 o2 o3 hM hd
          subst g4
          go_enter Try.func26, Try.ntmps26
          go_wp2_with fail
          (with_reducible refine (kp _).mono ?_); rintro e1 W1 ⟨rfl, hb1⟩
          have hE := hb1.alloc hb1.size (.cells #[.int .i64 4, .int .i64 (n : Int), .int .i64 le, .int .i64 pr] 83)
          go_wp2_with fail
          (with_reducible refine (ks _).mono ?_); rintro e1 W2 ⟨rfl, rfl⟩
          by_cases hm : M = 0
          · have HD := Lib.hid (HD.out.trans (if_neg (fun h => h.2 hm)))
            have t6 : ((M : Int) != 0) = false := by simp [hm]
            clear ks hb1 kp hm t5
            go_wp2_with fail
            go_ret
            exact ⟨by rw [HD.out]; rfl, hE⟩
          · rw [decide_eq_true hm] at t5
            have HD := Lib.hid (HD.out.trans (if_pos ⟨trivial, hm⟩))
            clear ks hb1 kp hm
            go_wp2_with fail
            go_ret
            exact ⟨by rw [HD.out]; rfl, hE⟩
        · have t4 : (ve == 4) = false := by simpa using g4
          rw [if_neg (fun h => g4 h.1)] at hd
          subst hd
          clear g2 g3 g4 hok hv o1 o2 o3
          go_enter Try.func26, Try.ntmps26
          go_wp2_with fail
          (with_reducible refine (kp _).mono ?_); rintro e1 W1 ⟨rfl, hb1⟩
          have hE := hb1.alloc hb1.size (.cells #[.int .i64 ve, .int .i64 he, .int .i64 le, .int .i64 pr] 83)
          go_wp2_with fail
          go_ret
          exact ⟨rfl, hE⟩
  · rw [if_pos g1] at hd
    subst hd
    have t1 : (D != 0) = true := by simpa using g1
    clear g1 hok
    go_enter Try.func26, Try.ntmps26
    go_wp2_with fail
    (with_reducible refine (kp _).mono ?_); rintro e1 W1 ⟨rfl, hb1⟩
    have hE := hb1.alloc hb1.size (.cells #[.int .i64 ve, .int .i64 he, .int .i64 le, .int .i64 pr] 83)
    go_wp2_with fail
    go_ret
    exact ⟨rfl, hE⟩
end Go.Proofs.Ytfadhgbhdoddpaa.DgG
