/- section: Need. -/
import Derived.Test.YtfadhgbhdoddpaaBiH
import Derived.Test.YtfadhgbhdoddpaaSeE
namespace Go.Proofs.Ytfadhgbhdoddpaa.SeG
open Go Go.RowKit Go.Proofs.Ytfadhgbhdoddpaa.Q Go.Proofs.Ytfadhgbhdoddpaa.Mem Go.Proofs.Ytfadhgbhdoddpaa.Rg Go.Proofs.Ytfadhgbhdoddpaa.Ap Go.Proofs.Ytfadhgbhdoddpaa.St Go.Proofs.Ytfadhgbhdoddpaa.BiP Go.Proofs.Ytfadhgbhdoddpaa.BiA Go.Proofs.Ytfadhgbhdoddpaa.BiG Go.Proofs.Ytfadhgbhdoddpaa.BiH

def nN (t : ByteArray) : Nat := at0 t 1 % 16 * 256 + at0 t 2
def nBad (t : ByteArray) : Prop := (at0 t 1 / 16 ≠ 11 ∧ at0 t 1 / 16 ≠ 15) ∨ nN t < 9 ∨ 4093 < nN t
instance (t : ByteArray) : Decidable (nBad t) := by unfold nBad; infer_instance
/-- what is wrong with a beginning; how many bytes -/
def needE (t : ByteArray) : Int := if t.size < 3 then 10 else if nBad t then 12 else 0
def needN (t : ByteArray) : Nat := if needE t = 0 then nN t + 3 else 0
set_option maxRecDepth 100000
set_option maxHeartbeats 800000 in
theorem rneed_any (t : ByteArray) (w : World) : Calls Try.prog 56 #[.string t] w fun e w' => e = .returned (.tuple #[.int .i64 (needN t : Nat), .int .i64 (needE t)]) ∧ Below w.heap.size w w' := by
  by_cases h3 : t.size < 3
  · have t1 : decide ((t.size : Int) < 3) = true := by simp; omega
    have HE := Lib.hid (show needE t = 10 ∧ needN t = 0 by simp [needE, needN, h3])
    clear h3
    go_enter Try.func56, Try.ntmps56
    go_wp2_with fail
    go_ret2
    exact ⟨by rw [HE.out.1, HE.out.2]; rfl, Below.refl _ _⟩
  · have t1 : decide ((t.size : Int) < 3) = false := by simp; omega
    have i1 : ∀ V : World, (Instr.index 9 (.string t) (.int .i64 1)).run Try.prog V = .ok (.int .u8 (at0 t 1 : Int)) V := fun V => idx_at t 1 (by omega) V
    have i2 : ∀ V : World, (Instr.index 9 (.string t) (.int .i64 2)).run Try.prog V = .ok (.int .u8 (at0 t 2 : Int)) V := fun V => idx_at t 2 (by omega) V
    have l1 := at0_lt t 1
    have l2 := at0_lt t 2
    have hE : needE t = if ((at0 t 1 / 16 ≠ 11 ∧ at0 t 1 / 16 ≠ 15) ∨ at0 t 1 % 16 * 256 + at0 t 2 < 9 ∨ 4093 < at0 t 1 % 16 * 256 + at0 t 2) then 12 else 0 := by
      unfold needE; rw [if_neg h3]; rfl
    have hN : needN t = if needE t = 0 then at0 t 1 % 16 * 256 + at0 t 2 + 3 else 0 := rfl
    obtain ⟨a, ha⟩ : ∃ a, at0 t 1 = a := ⟨_, rfl⟩
    obtain ⟨b, hb⟩ : ∃ b, at0 t 2 = b := ⟨_, rfl⟩
    rw [ha] at i1 l1 hE hN
    rw [hb] at i2 l2 hE hN
    have HE := Lib.hid hE
    have HN := Lib.hid hN
    have q1 : IntKind.i64.wrap (a : Int) = (a : Int) := by rw [IntKind.wrap_i64]; omega
    have q2 : IntKind.i64.wrap (b : Int) = (b : Int) := by rw [IntKind.wrap_i64]; omega
    have z1 : (a : Int) ≤ 255 := by omega
    have z2 : (b : Int) ≤ 255 := by omega
    have z3 : (0 : Int) ≤ (a : Int) := by omega
    have z4 : (0 : Int) ≤ (b : Int) := by omega
    clear h3 ha hb hE hN l1 l2
    go_enter Try.func56, Try.ntmps56
    go_wp2_with fail
    refine Go.Proofs.Ytfadhgbhdoddpaa.Q.region_ext (by kernel_rfl) (by kernel_rfl) ?_
    repeat (go_big_quiet_step (fail))
    refine wpQuiet_nil ?_
    rintro w9 ⟨pq, rfl⟩
    have HB := Lib.hid (below_ext w pq)
    go_wp2_with fail
    all_goals
      go_ret2
      refine ⟨?_, HB.out⟩
      have hE := HE.out
      have hN := HN.out
      first
        | (rw [if_pos (by omega)] at hE; rw [hE, if_neg (by decide)] at hN; rw [hN, hE]; rfl)
        | (rw [if_neg (by omega)] at hE; rw [hE, if_pos rfl] at hN; rw [hN, hE]; simp; done)
theorem wrap63 (n : Nat) (h : n < 9223372036854775808) : IntKind.i64.wrap (n : Int) = (n : Int) := by rw [IntKind.wrap_i64]; omega
set_option maxHeartbeats 1600000 in
theorem need_any (t : ByteArray) (w : World) (hs : t.size ≤ 1099511627776) : Calls Try.prog 50 #[.string t] w fun e w' => e = .returned (.tuple #[.int .i64 (needN t : Nat), .int .i64 (needE t)]) ∧ Below w.heap.size w w' := by
  by_cases h3 : t.size < 3
  · have t1 : decide ((t.size : Int) < 3) = true := by simp; omega
    have HE := Lib.hid (show needE t = 10 ∧ needN t = 0 by simp [needE, needN, h3])
    clear h3
    go_enter Try.func50, Try.ntmps50
    go_wp2_with fail
    go_ret2
    exact ⟨by rw [HE.out.1, HE.out.2]; rfl, Below.refl _ _⟩
  · have t1 : decide ((t.size : Int) < 3) = false := by simp; omega
    have l1 := at0_lt t 1
    have l2 := at0_lt t 2
    have hE : needE t = if ((at0 t 1 / 16 ≠ 11 ∧ at0 t 1 / 16 ≠ 15) ∨ at0 t 1 % 16 * 256 + at0 t 2 < 9 ∨ 4093 < at0 t 1 % 16 * 256 + at0 t 2) then 12 else 0 := by
      unfold needE; rw [if_neg h3]; rfl
    have hN : needN t = if needE t = 0 then at0 t 1 % 16 * 256 + at0 t 2 + 3 else 0 := rfl
    have hg1 : gb t 8 1 = at0 t 1 / 128 := by have := gb_in t 1 0 1 (by omega); simp only [Nat.mul_one, Nat.add_zero] at this; rw [this]; simp; omega
    have hg2 : gb t 10 2 = at0 t 1 / 16 % 4 := by have := gb_in t 1 2 2 (by omega); simpa using this
    have hg3 : gb t 12 12 = at0 t 1 % 16 * 256 + at0 t 2 := by
      have h1 := gb_in t 1 4 4 (by omega)
      have h2 := gb_byte t 2
      rw [gb_split t 12 4 8]
      simp only [Nat.reduceMul, Nat.reduceAdd, Nat.reduceSub, Nat.reducePow, Nat.div_one] at h1 h2 ⊢
      rw [h1, h2]
    have k0 := fun V => read_any t V
    have HB := Lib.hid (bk1 w 118 (inC 0 t))
    have kg := fun (W : World) (a n : Nat) (h : Bk w W [(w.heap.size, 118, inC a t)]) h1 h2 => get_bk (n := n) h (Nat.le_refl _) (by simp) hs h1 h2
    have HK := Lib.hid kg
    obtain ⟨S, hS⟩ : ∃ S, t.size = S := ⟨_, rfl⟩
    have h24 : 24 ≤ 8 * S := by omega
    rw [hS] at HK
    have HS := Lib.hid hS
    obtain ⟨y, hy⟩ : ∃ y, at0 t 1 / 128 = y := ⟨_, rfl⟩
    obtain ⟨z, hz⟩ : ∃ z, at0 t 1 / 16 % 4 = z := ⟨_, rfl⟩
    obtain ⟨m, hm⟩ : ∃ m, at0 t 1 % 16 * 256 + at0 t 2 = m := ⟨_, rfl⟩
    rw [hy] at hg1
    rw [hz] at hg2
    rw [hm] at hg3
    have HG1 := Lib.hid hg1
    have HG2 := Lib.hid hg2
    have HG3 := Lib.hid hg3
    have HY := Lib.hid (And.intro hy l1)
    have HZ := Lib.hid hz
    have HM := Lib.hid (show at0 t 1 % 16 * 256 + at0 t 2 = m ∧ m ≤ 4095 from ⟨hm, by omega⟩)
    have HE := Lib.hid hE
    have HN := Lib.hid hN
    clear kg h3 hE hN hy hz hm hg1 hg2 hg3 l1 l2
    go_enter Try.func50, Try.ntmps50
    go_wp2_with fail
    (with_reducible refine (k0 _).mono ?_); rintro e1 W0 ⟨rfl, rfl⟩
    have kg := HK.out _ 0 8 HB.out (by omega) (by decide)
    rw [show ((8 : Nat) : Int) = 8 from rfl] at kg
    clear k0
    go_wp2_with fail
    (with_reducible refine (kg).mono ?_); rintro e1 W1 ⟨rfl, hb1⟩
    have HB1 := Lib.hid hb1
    have kg := HK.out _ 8 1 HB1.out (by omega) (by decide)
    rw [show ((1 : Nat) : Int) = 1 from rfl, HG1.out] at kg
    clear hb1
    go_wp2_with fail
    (with_reducible refine (kg).mono ?_); rintro e1 W2 ⟨rfl, hb1⟩
    have HB2 := Lib.hid hb1
    have kg := HK.out _ 9 1 HB2.out (by omega) (by decide)
    rw [show ((1 : Nat) : Int) = 1 from rfl] at kg
    clear hb1 HB1
    go_wp2_with fail
    (with_reducible refine (kg).mono ?_); rintro e1 W3 ⟨rfl, hb1⟩
    have HB3 := Lib.hid hb1
    clear hb1 HB2 kg
    by_cases hy : y = 1
    · have t2 : ((y : Int) == 1) = true := by simp; omega
      have kg := HK.out _ 10 2 HB3.out (by omega) (by decide)
      rw [show ((2 : Nat) : Int) = 2 from rfl, HG2.out] at kg
      have HY1 := Lib.hid hy
      clear hy
      go_wp2_with fail
      (with_reducible refine (kg).mono ?_); rintro e1 W4 ⟨rfl, hb1⟩
      have HB4 := Lib.hid hb1
      have kg := HK.out _ 12 12 HB4.out (by omega) (by decide)
      rw [show ((12 : Nat) : Int) = 12 from rfl, HG3.out] at kg
      have qm := wrap63 m (by have := HM.out; omega)
      clear hb1 HB3
      go_wp2_with fail
      all_goals
        (with_reducible refine (kg).mono ?_); rintro e1 W5 ⟨rfl, hb1⟩
        have HBE := Lib.hid hb1.be
        have z0 : (0 : Int) ≤ (m : Int) := by omega
        have z1 : (m : Int) ≤ 4095 := by have := HM.out; omega
        clear hb1
        go_wp2_with fail
      all_goals
        go_ret2
        refine ⟨?_, HBE.out⟩
        have hE := HE.out
        have hN := HN.out
        have y1 := HY.out
        have y2 := HZ.out
        have y3 := HM.out
        have y4 := HY1.out
        first
          | (rw [if_pos (by omega)] at hE; rw [hE, if_neg (by decide)] at hN; rw [hN, hE]; rfl)
          | (rw [if_neg (by omega)] at hE; rw [hE, if_pos rfl, y3.1] at hN; rw [hN, hE]; simp; done)
    · have t2 : ((y : Int) == 1) = false := by simp; omega
      have kg := HK.out _ 10 12 HB3.out (by omega) (by decide)
      rw [show ((12 : Nat) : Int) = 12 from rfl] at kg
      have HY1 := Lib.hid hy
      clear hy
      go_wp2_with fail
      (with_reducible refine (kg).mono ?_); rintro e1 W5 ⟨rfl, hb1⟩
      have HBE := Lib.hid hb1.be
      clear hb1
      go_wp2_with fail
      go_ret2
      refine ⟨?_, HBE.out⟩
      have hE := HE.out
      have hN := HN.out
      have y1 := HY.out
      have y4 := HY1.out
      rw [if_pos (by omega)] at hE
      rw [hE, if_neg (by decide)] at hN
      rw [hN, hE]
      rfl
end Go.Proofs.Ytfadhgbhdoddpaa.SeG
