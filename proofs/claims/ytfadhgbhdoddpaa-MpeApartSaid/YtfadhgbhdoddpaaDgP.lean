/- The sum of a datagram's header, plain. -/
import Derived.Test.YtfadhgbhdoddpaaBiH
namespace Go.Proofs.Ytfadhgbhdoddpaa.DgP
open Go Go.Proofs.Ytfadhgbhdoddpaa.St Go.Proofs.Ytfadhgbhdoddpaa.BiH

/-- the bytes at even places, and at odd ones, of the first i, summed -/
def dh (s : ByteArray) : Nat → Nat
  | 0 => 0
  | i + 1 => dh s i + if i % 2 = 0 then at0 s i else 0
def dl (s : ByteArray) : Nat → Nat
  | 0 => 0
  | i + 1 => dl s i + if i % 2 = 0 then 0 else at0 s i
theorem d_le (s : ByteArray) (i : Nat) : dh s i ≤ 255 * i ∧ dl s i ≤ 255 * i := by
  induction i with
  | zero => simp [dh, dl]
  | succ i ih =>
    have := at0_lt s i
    unfold dh dl
    split <;> omega
/-- the one number from 1 to 65535 (or 0) that is congruent -/
def r15 (n : Nat) : Nat := if n = 0 then 0 else (n - 1) % 65535 + 1
theorem r15_le (n : Nat) : r15 n ≤ 65535 := by unfold r15; split <;> omega
theorem r15_small {n : Nat} (h : n ≤ 65535) : r15 n = n := by unfold r15; split <;> omega
theorem r15_fold {n : Nat} (h : 65535 < n) : r15 (n / 65536 + n % 65536) = r15 n ∧ n / 65536 + n % 65536 < n := by
  unfold r15
  rw [if_neg (by omega), if_neg (by omega)]
  omega
theorem r15_add (n x : Nat) (hx : x ≤ 65535) : r15 (n + x) = if 65535 < r15 n + x then r15 n + x - 65535 else r15 n + x := by
  unfold r15
  by_cases h : n = 0
  · subst h
    by_cases h2 : x = 0
    · subst h2; simp
    · rw [if_neg (by omega), if_pos rfl, if_neg (by omega)]; omega
  · rw [if_neg (by omega), if_neg h]
    split <;> omega
/-- the sum -/
def dsum (s : ByteArray) : Nat := 65535 - r15 (256 * dh s s.size + dl s s.size)
theorem dsum_le (s : ByteArray) : dsum s ≤ 65535 := by unfold dsum; omega
theorem d_even (s : ByteArray) (k : Nat) : 256 * dh s (2 * k + 1) + dl s (2 * k + 1) = (256 * dh s (2 * k) + dl s (2 * k)) + 256 * at0 s (2 * k) := by
  rw [dh, dl, if_pos (by omega), if_pos (by omega)]; omega
theorem d_odd (s : ByteArray) (k : Nat) : 256 * dh s (2 * k + 2) + dl s (2 * k + 2) = (256 * dh s (2 * k) + dl s (2 * k)) + (256 * at0 s (2 * k) + at0 s (2 * k + 1)) := by
  rw [show 2 * k + 2 = (2 * k + 1) + 1 by omega, dh, dl, if_neg (by omega), if_neg (by omega), dh, dl, if_pos (by omega), if_pos (by omega)]; omega
end Go.Proofs.Ytfadhgbhdoddpaa.DgP
