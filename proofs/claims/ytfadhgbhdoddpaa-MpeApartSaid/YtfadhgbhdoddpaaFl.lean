/- Floats that are whole numbers below 2 ^ 53: made of an integer, added, made an integer again: exact. Plain. -/
import Derived.Laws.FloatArith
import Derived.Laws.ComplexArith
import Derived.Laws.Cover3
namespace Go.Proofs.Ytfadhgbhdoddpaa.Fl
open Go Ieee

/-- a whole number as a float's bits -/
def fl (n : Nat) : Nat := Format.nearest double false n 0
theorem cut_exact (way : Toward) (neg : Bool) (n d : Nat) (h : n = 0 ∨ d ≤ (n * 2 ^ d).log2 + 2) : Toward.cut way neg (n * 2 ^ d) d = n := by
  have key : ∀ g, 0 < g → (n * 2 ^ d) / g = n → (n * 2 ^ d) % g = 0 → 1 <<< min d ((n * 2 ^ d).log2 + 2) = g → Toward.cut way neg (n * 2 ^ d) d = n := by
    intro g hg h1 h2 h3
    unfold Toward.cut
    dsimp only
    rw [h3, h1, h2]
    cases way <;> simp
    omega
  rcases h with rfl | h
  · refine key (1 <<< min d ((0 * 2 ^ d).log2 + 2)) ?_ (by simp) (by simp) rfl
    rw [Nat.shiftLeft_eq, Nat.one_mul]; exact Nat.pow_pos (by decide)
  · refine key (2 ^ d) (Nat.pow_pos (by decide)) (Nat.mul_div_cancel _ (Nat.pow_pos (by decide))) (Nat.mul_mod_left _ _) ?_
    rw [Nat.min_eq_left h, Nat.shiftLeft_eq, Nat.one_mul]
theorem log_mul (n k : Nat) (h : n ≠ 0) : (n * 2 ^ k).log2 = n.log2 + k := by
  have h1 : n * 2 ^ k ≠ 0 := Nat.mul_ne_zero h (Nat.ne_of_gt (Nat.pow_pos (by decide)))
  rw [Nat.log2_eq_iff h1]
  have h2 := Nat.log2_self_le h
  have h3 := @Nat.lt_log2_self n
  refine ⟨?_, ?_⟩
  · rw [Nat.pow_add]; exact Nat.mul_le_mul_right _ h2
  · rw [show n.log2 + k + 1 = (n.log2 + 1) + k by omega, Nat.pow_add]
    exact Nat.mul_lt_mul_of_pos_right h3 (Nat.pow_pos (by decide))
theorem log_lt {n : Nat} (h : n < 9007199254740992) : n.log2 ≤ 52 := by
  by_cases h0 : n = 0
  · subst h0; decide
  · have : n.log2 < 53 := (Nat.log2_lt h0).2 (by omega)
    omega
/-- its significand -/
theorem sig_bounds {n : Nat} (h0 : n ≠ 0) (h : n < 9007199254740992) : 4503599627370496 ≤ n * 2 ^ (52 - n.log2) ∧ n * 2 ^ (52 - n.log2) < 9007199254740992 := by
  have hl := log_lt h
  have h2 := Nat.log2_self_le h0
  have h3 := @Nat.lt_log2_self n
  have e1 : 2 ^ n.log2 * 2 ^ (52 - n.log2) = 4503599627370496 := by rw [← Nat.pow_add, show n.log2 + (52 - n.log2) = 52 by omega]
  have e2 : 2 ^ (n.log2 + 1) * 2 ^ (52 - n.log2) = 9007199254740992 := by rw [← Nat.pow_add, show n.log2 + 1 + (52 - n.log2) = 53 by omega]
  refine ⟨?_, ?_⟩
  · rw [← e1]; exact Nat.mul_le_mul_right _ h2
  · rw [← e2]; exact Nat.mul_lt_mul_of_pos_right h3 (Nat.pow_pos (by decide))
theorem least : Format.leastPlace double = -1074 := by decide
theorem binade : Format.binade double = 4503599627370496 := by decide
theorem inf : Format.infRung double = 9218868437227405312 := by decide
theorem sw : Format.signWeight double = 9223372036854775808 := by decide
/-- the word -/
def W (n : Nat) : Nat := (n.log2 + 1022) * 4503599627370496 + n * 2 ^ (52 - n.log2)
theorem nearest_W {n : Nat} (k : Nat) (h0 : n ≠ 0) (h : n < 9007199254740992) : Format.nearest double false (n * 2 ^ k) (-(k : Int)) = W n := by
  have hl := log_lt h
  obtain ⟨m1, m2⟩ := sig_bounds h0 h
  have hne : n * 2 ^ k ≠ 0 := Nat.mul_ne_zero h0 (Nat.ne_of_gt (Nat.pow_pos (by decide)))
  have hkept : Toward.even.cut false ((n * 2 ^ k) <<< (52 - n.log2 - k)) (n.log2 + k - 52) = n * 2 ^ (52 - n.log2) := by
    rw [Nat.shiftLeft_eq]
    by_cases hk : n.log2 + k ≤ 52
    · rw [show n.log2 + k - 52 = 0 by omega, Nat.mul_assoc, ← Nat.pow_add, show k + (52 - n.log2 - k) = 52 - n.log2 by omega]
      have := cut_exact .even false (n * 2 ^ (52 - n.log2)) 0 (Or.inr (by omega))
      simpa using this
    · rw [show 52 - n.log2 - k = 0 by omega, Nat.pow_zero, Nat.mul_one]
      have e : n * 2 ^ k = n * 2 ^ (52 - n.log2) * 2 ^ (n.log2 + k - 52) := by rw [Nat.mul_assoc, ← Nat.pow_add, show 52 - n.log2 + (n.log2 + k - 52) = k by omega]
      rw [e]
      refine cut_exact .even false _ _ (Or.inr ?_)
      rw [← e, log_mul n k h0]
      omega
  unfold Format.nearest
  rw [if_neg hne, log_mul n k h0, least, binade, inf]
  dsimp only
  have e1 : max (-(k : Int) + ((n.log2 + k : Nat) : Int) - (double.fractionBits : Int)) (-1074) = (n.log2 : Int) - 52 := by
    rw [show double.fractionBits = 52 from rfl]; omega
  rw [e1, show ((-(k : Int)) - ((n.log2 : Int) - 52)).toNat = 52 - n.log2 - k by omega, show (((n.log2 : Int) - 52) - (-(k : Int))).toNat = n.log2 + k - 52 by omega, hkept, show (((n.log2 : Int) - 52) - (-1074)).toNat = n.log2 + 1022 by omega]
  unfold Format.word
  rw [if_neg (by decide), Nat.min_eq_left]
  · rfl
  · omega
theorem fl_W {n : Nat} (h0 : n ≠ 0) (h : n < 9007199254740992) : fl n = W n := by
  have := nearest_W 0 h0 h
  simpa [fl] using this
theorem fl_zero : fl 0 = 0 := by decide
theorem near (n k : Nat) (h : n < 9007199254740992) : Format.nearest double false (n * 2 ^ k) (-(k : Int)) = fl n := by
  by_cases h0 : n = 0
  · subst h0
    rw [fl_zero]
    unfold Format.nearest
    simp [Format.word]
  · rw [nearest_W k h0 h, fl_W h0 h]
theorem read_fl (n : Nat) (h : n < 9007199254740992) : ∃ k : Nat, (n = 0 ∨ k ≤ 52) ∧ Format.read double (fl n) = .number false (n * 2 ^ k) (-(k : Int)) := by
  by_cases h0 : n = 0
  · subst h0
    obtain ⟨K, hK⟩ : ∃ K : Nat, K = 1074 := ⟨_, rfl⟩
    refine ⟨K, Or.inl rfl, ?_⟩
    rw [fl_zero, Nat.zero_mul, hK]
    decide
  · refine ⟨52 - n.log2, Or.inr (by omega), ?_⟩
    have hl := log_lt h
    obtain ⟨m1, m2⟩ := sig_bounds h0 h
    rw [fl_W h0 h]
    unfold W
    obtain ⟨m, hm⟩ : ∃ m, n * 2 ^ (52 - n.log2) = m := ⟨_, rfl⟩
    rw [hm] at m1 m2 ⊢
    obtain ⟨L, hL⟩ : ∃ L, n.log2 = L := ⟨_, rfl⟩
    rw [hL] at hl ⊢
    unfold Format.read
    rw [sw, binade, inf, least]
    dsimp only
    have e0 : ((L + 1022) * 4503599627370496 + m) / 9223372036854775808 % 2 = 0 := by omega
    have e1 : ((L + 1022) * 4503599627370496 + m) % 9223372036854775808 = (L + 1022) * 4503599627370496 + m := by omega
    rw [e0, e1, if_neg (by omega), if_pos (by omega)]
    have e2 : ((L + 1022) * 4503599627370496 + m) % 4503599627370496 = m - 4503599627370496 := by omega
    have e3 : ((L + 1022) * 4503599627370496 + m) / 4503599627370496 = L + 1023 := by omega
    rw [e2, e3, show 4503599627370496 + (m - 4503599627370496) = m by omega, show (-1074 : Int) + ((L + 1023 - 1 : Nat) : Int) = -((52 - L : Nat) : Int) by omega]
    rfl
theorem add_fl (a b : Nat) (h : a + b < 9007199254740992) : Format.add double (fl a) (fl b) = some (fl (a + b)) := by
  obtain ⟨i, _, hi⟩ := read_fl a (by omega)
  obtain ⟨j, _, hj⟩ := read_fl b (by omega)
  unfold Format.add
  rw [hi, hj]
  unfold Datum.sum
  dsimp only
  obtain ⟨k, hk⟩ : ∃ k : Nat, max i j = k := ⟨_, rfl⟩
  have hb : min (-(i : Int)) (-(j : Int)) = -(k : Int) := by omega
  rw [hb]
  have hik : i ≤ k := by omega
  have hjk : j ≤ k := by omega
  have e1 : (-(i : Int) - -(k : Int)).toNat = k - i := by omega
  have e2 : (-(j : Int) - -(k : Int)).toNat = k - j := by omega
  have s1 : signed false (a * 2 ^ i) (k - i) = ((a * 2 ^ k : Nat) : Int) := by
    unfold signed
    rw [if_neg (by decide), Nat.shiftLeft_eq, Nat.mul_assoc, ← Nat.pow_add, show i + (k - i) = k by omega]
  have s2 : signed false (b * 2 ^ j) (k - j) = ((b * 2 ^ k : Nat) : Int) := by
    unfold signed
    rw [if_neg (by decide), Nat.shiftLeft_eq, Nat.mul_assoc, ← Nat.pow_add, show j + (k - j) = k by omega]
  rw [e1, e2, s1, s2]
  have e3 : ((a * 2 ^ k : Nat) : Int) + ((b * 2 ^ k : Nat) : Int) = (((a + b) * 2 ^ k : Nat) : Int) := by rw [Nat.add_mul]; omega
  rw [e3]
  have e4 : (if (((a + b) * 2 ^ k : Nat) : Int) = 0 then false && false else decide ((((a + b) * 2 ^ k : Nat) : Int) < 0)) = false := by
    split
    · rfl
    · exact decide_eq_false (Int.not_lt.2 (Int.natCast_nonneg _))
  rw [e4, Int.natAbs_natCast]
  show some (Format.nearest double false ((a + b) * 2 ^ k) (-(k : Int))) = _
  rw [near _ _ h]
theorem toInt_fl (n : Nat) (h : n < 9007199254740992) : (Format.read double (fl n)).toInt .zero = some (n : Int) := by
  obtain ⟨k, hk, hr⟩ := read_fl n h
  rw [hr]
  unfold Datum.toInt Datum.integral
  dsimp only
  rw [show (-(k : Int)).toNat = 0 by omega, show (-(-(k : Int))).toNat = k by omega, Nat.shiftLeft_zero, cut_exact]
  · simp [signed]
  · rcases hk with h | h
    · exact Or.inl h
    · by_cases h0 : n = 0
      · exact Or.inl h0
      · right; rw [log_mul n k h0]; omega
theorem ofInt_fl (n : Nat) : floatOfInt .f64 (n : Int) = fl n := by
  show Format.nearest double (decide ((n : Int) < 0)) (n : Int).natAbs 0 = _
  rw [Int.natAbs_natCast, decide_eq_false (by omega)]
  rfl
theorem bits_add (a b : Nat) (h : a + b < 9007199254740992) : floatBits .add .f64 (fl a) (fl b) = some (fl (a + b)) := add_fl a b h
theorem intVal_fl (n : Nat) (h : n < 9007199254740992) : floatToIntVal .f64 (fl n) .i64 = some (n : Int) := by
  unfold floatToIntVal
  rw [show (FloatKind.f64.decode (fl n)).toInt .zero = some (n : Int) from toInt_fl n h]
  dsimp only
  rw [if_pos]
  refine ⟨?_, ?_⟩
  · show (-9223372036854775808 : Int) ≤ _
    omega
  · show _ ≤ (9223372036854775807 : Int)
    omega
section
variable {P : Program} (w : World)
/-- a sum of complex numbers, part by part -/
theorem run_csum (t : TypeId) (a b c d : Nat) (h1 : a + c < 9007199254740992) (h2 : b + d < 9007199254740992) : (binOp .add t (.complex .f64 (fl a) (fl b)) (.complex .f64 (fl c) (fl d))).run P w = .ok (.complex .f64 (fl (a + c)) (fl (b + d))) w := by
  refine run_complex_sum w .add (Or.inl rfl) t .f64 _ _ _ _ _ _ ?_
  unfold cSumBits
  rw [bits_add _ _ h1, bits_add _ _ h2]
  rfl
theorem run_cint (src dst : TypeId) (n : Nat) (hs : (P.underlying src).isSome = true) (hd : P.underlying dst = some (.int .i64)) (h : n < 9007199254740992) : (convert src dst (.float .f64 (fl n))).run P w = .ok (.int .i64 (n : Int)) w :=
  run_convert_float_int w src dst .f64 .i64 (fl n) n hs hd (intVal_fl n h)
end
end Go.Proofs.Ytfadhgbhdoddpaa.Fl
