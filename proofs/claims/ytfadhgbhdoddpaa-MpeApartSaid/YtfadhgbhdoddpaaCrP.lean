/- The check sum, plain: a bit, a byte, bytes; the two ways to reckon are one; bytes of which one is another one have another sum. -/
import Derived.WalkKit
namespace Go.Proofs.Ytfadhgbhdoddpaa.CrP
open Go Go.RowKit
def poly : BitVec 32 := 79764919#32
def sh (x : BitVec 32) : BitVec 32 := (x <<< 1) ^^^ (if x.msb then poly else 0#32)
theorem sh_xor (x y : BitVec 32) : sh (x ^^^ y) = sh x ^^^ sh y := by
  unfold sh
  rw [BitVec.shiftLeft_xor_distrib, BitVec.msb_xor]
  generalize x <<< 1 = a
  generalize y <<< 1 = b
  generalize poly = p
  cases x.msb <;> cases y.msb <;> simp only [Bool.xor_false, Bool.xor_true, Bool.not_true, Bool.not_false, if_true, if_false, Bool.false_eq_true] <;> (ext i hi; simp; try (cases a[i] <;> cases b[i] <;> cases p[i] <;> rfl))
theorem sh_zero (z : BitVec 32) (h : sh z = 0#32) : z = 0#32 := by
  unfold sh at h
  have hm : z.msb = false := by
    cases hz : z.msb with
    | false => rfl
    | true =>
      rw [hz] at h
      have := congrArg (fun v : BitVec 32 => v.getLsbD 0) h
      simp [poly] at this
  rw [hm] at h
  simp only [Bool.false_eq_true, if_false, BitVec.xor_zero] at h
  have ht : z.toNat < 2 ^ 31 := by
    rw [BitVec.msb_eq_decide] at hm
    simpa using hm
  have := congrArg BitVec.toNat h
  simp [BitVec.toNat_shiftLeft, Nat.shiftLeft_eq] at this
  apply BitVec.eq_of_toNat_eq
  simp
  omega
theorem xor_eq_zero {x y : BitVec 32} (h : x ^^^ y = 0#32) : x = y := by
  have := congrArg (fun v => v ^^^ y) h
  simpa [BitVec.xor_assoc] using this
theorem sh_inj {x y : BitVec 32} (h : sh x = sh y) : x = y := by
  apply xor_eq_zero
  apply sh_zero
  rw [sh_xor, h, BitVec.xor_self]
def shN : Nat → BitVec 32 → BitVec 32
  | 0, x => x
  | n + 1, x => sh (shN n x)
theorem shN_xor (n : Nat) (x y : BitVec 32) : shN n (x ^^^ y) = shN n x ^^^ shN n y := by
  induction n with
  | zero => rfl
  | succ n ih => simp only [shN, ih, sh_xor]
theorem shN_inj (n : Nat) {x y : BitVec 32} (h : shN n x = shN n y) : x = y := by
  induction n with
  | zero => exact h
  | succ n ih => exact ih (sh_inj h)
theorem sh_small (z : BitVec 32) (h : z.toNat < 2 ^ 31) : sh z = z <<< 1 := by
  unfold sh
  have : z.msb = false := by rw [BitVec.msb_eq_decide]; simpa using h
  rw [this]; simp
theorem shN_small (z : BitVec 32) (k : Nat) (hk : k ≤ 8) (h : z.toNat < 2 ^ 24) : shN k z = z <<< k := by
  induction k with
  | zero => simp [shN]
  | succ k ih =>
    have e : (z <<< k).toNat = z.toNat * 2 ^ k := by
      rw [BitVec.toNat_shiftLeft, Nat.shiftLeft_eq]
      apply Nat.mod_eq_of_lt
      have : 2 ^ k ≤ 2 ^ 8 := Nat.pow_le_pow_right (by decide) (by omega)
      calc z.toNat * 2 ^ k ≤ z.toNat * 2 ^ 8 := Nat.mul_le_mul_left _ this
        _ < 2 ^ 32 := by omega
    have hlt : (z <<< k).toNat < 2 ^ 31 := by
      rw [e]
      have : 2 ^ k ≤ 2 ^ 7 := Nat.pow_le_pow_right (by decide) (by omega)
      calc z.toNat * 2 ^ k ≤ z.toNat * 2 ^ 7 := Nat.mul_le_mul_left _ this
        _ < 2 ^ 31 := by omega
    rw [shN, ih (by omega), sh_small _ hlt, ← BitVec.shiftLeft_add]
/-- a byte, at the top -/
def top (c : UInt8) : BitVec 32 := BitVec.ofNat 32 (c.toNat * 16777216)
theorem top_toNat (c : UInt8) : (top c).toNat = c.toNat * 16777216 := by
  unfold top
  rw [BitVec.toNat_ofNat]
  have := UInt8.toNat_lt c
  omega
theorem top_inj {c d : UInt8} (h : top c = top d) : c = d := by
  have := congrArg BitVec.toNat h
  rw [top_toNat, top_toNat] at this
  apply UInt8.toNat_inj.1
  omega
/-- a byte taken at once -/
def bs (x : BitVec 32) (c : UInt8) : BitVec 32 := shN 8 (x ^^^ top c)
theorem bs_inj {x y : BitVec 32} {c : UInt8} (h : bs x c = bs y c) : x = y := by
  have := shN_inj 8 h
  have := congrArg (fun v => v ^^^ top c) this
  simpa [BitVec.xor_assoc] using this
theorem bs_inj' {x : BitVec 32} {c d : UInt8} (h : bs x c = bs x d) : c = d := by
  have := shN_inj 8 h
  have := congrArg (fun v => x ^^^ v) this
  simp only [← BitVec.xor_assoc, BitVec.xor_self, BitVec.zero_xor] at this
  exact top_inj this
def crc (x : BitVec 32) (l : List UInt8) : BitVec 32 := l.foldl bs x
theorem crc_app (x : BitVec 32) (l m : List UInt8) : crc x (l ++ m) = crc (crc x l) m := by simp [crc]
theorem crc_inj {x y : BitVec 32} (l : List UInt8) (h : crc x l = crc y l) : x = y := by
  induction l generalizing x y with
  | nil => exact h
  | cons c l ih => exact bs_inj (ih h)
/-- one byte that is another one is always seen -/
theorem crc_turned {x : BitVec 32} (a b : List UInt8) {c d : UInt8} (h : c ≠ d) : crc x (a ++ c :: b) ≠ crc x (a ++ d :: b) := by
  intro e
  rw [crc_app, crc_app] at e
  exact h (bs_inj' (crc_inj b (x := bs (crc x a) c) (y := bs (crc x a) d) e))
/-- the top byte, and the rest -/
def hi (x : BitVec 32) : UInt8 := UInt8.ofNat (x.toNat / 16777216)
theorem hi_toNat (x : BitVec 32) : (hi x).toNat = x.toNat / 16777216 := by
  unfold hi
  rw [UInt8.toNat_ofNat']
  have := x.isLt
  omega
theorem low_toNat (x : BitVec 32) : (x ^^^ top (hi x)).toNat = x.toNat % 16777216 := by
  rw [BitVec.toNat_xor, top_toNat, hi_toNat]
  obtain ⟨q, hq⟩ : ∃ q, x.toNat / 16777216 = q := ⟨_, rfl⟩
  obtain ⟨r, hr⟩ : ∃ r, x.toNat % 16777216 = r := ⟨_, rfl⟩
  have hd : x.toNat = 2 ^ 24 * q + r := by omega
  have hlt : r < 2 ^ 24 := by omega
  rw [hq, hr, hd, show q * 16777216 = 2 ^ 24 * q + 0 by omega]
  apply Nat.eq_of_testBit_eq
  intro i
  rw [Nat.testBit_xor, Nat.testBit_two_pow_mul_add _ hlt, Nat.testBit_two_pow_mul_add _ (by decide)]
  split
  · simp
  · rename_i h
    simp
    exact Nat.testBit_lt_two_pow (Nat.lt_of_lt_of_le hlt (Nat.pow_le_pow_right (show 2 > 0 by decide) (show 24 ≤ i by omega)))
theorem bs_hi (x : BitVec 32) : bs x (hi x) = x <<< 8 := by
  unfold bs
  rw [shN_small _ 8 (Nat.le_refl _) (by rw [low_toNat]; omega)]
  apply BitVec.eq_of_toNat_eq
  rw [BitVec.toNat_shiftLeft, BitVec.toNat_shiftLeft, low_toNat, Nat.shiftLeft_eq, Nat.shiftLeft_eq]
  omega
/-- a number as four bytes, the highest one first -/
def four (x : BitVec 32) : List UInt8 := [hi x, hi (x <<< 8), hi (x <<< 16), hi (x <<< 24)]
theorem crc_four (x : BitVec 32) : crc x (four x) = 0#32 := by
  show bs (bs (bs (bs x (hi x)) (hi (x <<< 8))) (hi (x <<< 16))) (hi (x <<< 24)) = 0#32
  rw [bs_hi, bs_hi, ← BitVec.shiftLeft_add, bs_hi, ← BitVec.shiftLeft_add, bs_hi, ← BitVec.shiftLeft_add]
  exact BitVec.shiftLeft_eq_zero (by decide)
theorem top_xor (x : BitVec 32) (c : UInt8) (h : (x ^^^ top c).toNat < 16777216) : c = hi x := by
  have e := low_toNat x
  apply UInt8.toNat_inj.1
  have hx : x = (x ^^^ top c) ^^^ top c := by rw [BitVec.xor_assoc, BitVec.xor_self, BitVec.xor_zero]
  have := congrArg BitVec.toNat hx
  rw [BitVec.toNat_xor, top_toNat] at this
  rw [hi_toNat, this]
  obtain ⟨r, hr⟩ : ∃ r, (x ^^^ top c).toNat = r := ⟨_, rfl⟩
  rw [hr] at h ⊢
  have : (r ^^^ (c.toNat * 16777216)) / 2 ^ 24 = c.toNat := by
    rw [← Nat.shiftRight_eq_div_pow, Nat.shiftRight_xor_distrib, Nat.shiftRight_eq_div_pow, Nat.shiftRight_eq_div_pow]
    rw [Nat.div_eq_of_lt (by omega), Nat.mul_div_cancel _ (by decide)]
    simp
  omega
theorem of_toNat (n : Nat) (hn : n < 4294967296) : (BitVec.ofNat 32 n).toNat = n := by rw [BitVec.toNat_ofNat]; omega
theorem shl8 (n : Nat) (hn : n < 16777216) : (BitVec.ofNat 32 n) <<< 8 = BitVec.ofNat 32 (n * 256) := by
  apply BitVec.eq_of_toNat_eq
  rw [BitVec.toNat_shiftLeft, of_toNat n (by omega), Nat.shiftLeft_eq, BitVec.toNat_ofNat]
theorem xor_top (n : Nat) (c : UInt8) (hn : n < 16777216) : BitVec.ofNat 32 n ^^^ top c = BitVec.ofNat 32 (c.toNat * 16777216 + n) := by
  have lc := UInt8.toNat_lt c
  apply BitVec.eq_of_toNat_eq
  rw [BitVec.toNat_xor, of_toNat n (by omega), top_toNat, of_toNat _ (by omega), Nat.xor_comm, show c.toNat * 16777216 = 2 ^ 24 * c.toNat + 0 by omega, show 2 ^ 24 * c.toNat + 0 + n = 2 ^ 24 * c.toNat + n by omega]
  apply Nat.eq_of_testBit_eq
  intro i
  rw [Nat.testBit_xor, Nat.testBit_two_pow_mul_add _ (by decide), Nat.testBit_two_pow_mul_add _ (show n < 2 ^ 24 by omega)]
  split
  · simp
  · rename_i h
    rw [Nat.testBit_lt_two_pow (Nat.lt_of_lt_of_le (show n < 2 ^ 24 by omega) (Nat.pow_le_pow_right (show 2 > 0 by decide) (show 24 ≤ i by omega)))]
    simp
/-- the state ahead of a byte, by the one behind it -/
theorem bs_back {x : BitVec 32} {c : UInt8} {n : Nat} (hn : n < 16777216) (h : bs x c = BitVec.ofNat 32 (n * 256)) : x = BitVec.ofNat 32 (c.toNat * 16777216 + n) := by
  unfold bs at h
  rw [← shl8 n hn, ← shN_small _ 8 (Nat.le_refl _) (by rw [of_toNat n (by omega)]; omega)] at h
  rw [← xor_top n c hn, ← shN_inj 8 h, BitVec.xor_assoc, BitVec.xor_self, BitVec.xor_zero]
theorem four_only (x : BitVec 32) (l : List UInt8) (hl : l.length = 4) (h : crc x l = 0#32) : l = four x := by
  match l, hl with
  | [a, b, c, d], _ =>
    have h1 : bs (bs (bs (bs x a) b) c) d = BitVec.ofNat 32 (0 * 256) := h
    have ld := UInt8.toNat_lt d
    have lc := UInt8.toNat_lt c
    have lb := UInt8.toNat_lt b
    have la := UInt8.toNat_lt a
    have h2 := bs_back (by decide) h1
    rw [show d.toNat * 16777216 + 0 = (d.toNat * 65536) * 256 by omega] at h2
    have h3 := bs_back (by omega) h2
    rw [show c.toNat * 16777216 + d.toNat * 65536 = (c.toNat * 65536 + d.toNat * 256) * 256 by omega] at h3
    have h4 := bs_back (by omega) h3
    rw [show b.toNat * 16777216 + (c.toNat * 65536 + d.toNat * 256) = (b.toNat * 65536 + c.toNat * 256 + d.toNat) * 256 by omega] at h4
    have h5 := bs_back (by omega) h4
    have hx : x.toNat = a.toNat * 16777216 + (b.toNat * 65536 + c.toNat * 256 + d.toNat) := by rw [h5, of_toNat _ (by omega)]
    have z1 := hi_toNat x
    have z2 := hi_toNat (x <<< 8)
    have z3 := hi_toNat (x <<< 16)
    have z4 := hi_toNat (x <<< 24)
    rw [BitVec.toNat_shiftLeft, Nat.shiftLeft_eq] at z2 z3 z4
    unfold four
    rw [show a = hi x from UInt8.toNat_inj.1 (by omega), show b = hi (x <<< 8) from UInt8.toNat_inj.1 (by omega), show c = hi (x <<< 16) from UInt8.toNat_inj.1 (by omega), show d = hi (x <<< 24) from UInt8.toNat_inj.1 (by omega)]
/-- the document's way: a bit of a byte -/
def rb (x : BitVec 32) (b : Bool) : BitVec 32 := (x <<< 1) ^^^ (if x.msb != b then poly else 0#32)
def rbN (x : BitVec 32) (c : UInt8) : Nat → BitVec 32
  | 0 => x
  | k + 1 => rb (rbN x c k) (c.toNat.testBit (7 - k))
theorem rb_sh (s m : BitVec 32) : sh (s ^^^ m) = rb s m.msb ^^^ (m <<< 1) := by
  unfold sh rb
  rw [BitVec.shiftLeft_xor_distrib, BitVec.msb_xor]
  generalize s <<< 1 = a
  generalize m <<< 1 = b
  generalize poly = p
  cases s.msb <;> cases m.msb <;> (ext i hi; simp; try (cases a[i] <;> cases b[i] <;> cases p[i] <;> rfl))
theorem top_bit (c : UInt8) (k : Nat) (hk : k < 8) : (top c <<< k).msb = c.toNat.testBit (7 - k) := by
  have lc := UInt8.toNat_lt c
  rw [BitVec.msb_eq_getLsbD_last, BitVec.getLsbD_shiftLeft]
  have : (decide (32 - 1 < 32) && (!decide (32 - 1 < k) && (top c).getLsbD (32 - 1 - k))) = (top c).getLsbD (31 - k) := by
    simp; omega
  rw [show (decide (32 - 1 < 32) && !decide (32 - 1 < k) && (top c).getLsbD (32 - 1 - k)) = (top c).getLsbD (31 - k) by simp; omega]
  unfold BitVec.getLsbD
  rw [top_toNat, show c.toNat * 16777216 = 2 ^ 24 * c.toNat + 0 by omega, Nat.testBit_two_pow_mul_add _ (by decide), if_neg (by omega), show 31 - k - 24 = 7 - k by omega]
theorem rbN_inv (x : BitVec 32) (c : UInt8) (k : Nat) (hk : k ≤ 8) : rbN x c k ^^^ (top c <<< k) = shN k (x ^^^ top c) := by
  induction k with
  | zero => simp [rbN, shN]
  | succ k ih =>
    have ih := ih (by omega)
    rw [shN, ← ih, rb_sh, rbN, top_bit c k (by omega), ← BitVec.shiftLeft_add]
theorem rbN_bs (x : BitVec 32) (c : UInt8) : rbN x c 8 = bs x c := by
  have h := rbN_inv x c 8 (Nat.le_refl _)
  have hz : top c <<< 8 = 0#32 := by
    have lc := UInt8.toNat_lt c
    apply BitVec.eq_of_toNat_eq
    rw [BitVec.toNat_shiftLeft, top_toNat, Nat.shiftLeft_eq]
    simp; omega
  rw [hz, BitVec.xor_zero] at h
  exact h
/-- the table's row, and the way by the table -/
def row (i : Nat) : BitVec 32 := shN 8 (BitVec.ofNat 32 (i * 16777216))
theorem xor_lt {a b : Nat} (ha : a < 256) (hb : b < 256) : a ^^^ b < 256 := Nat.xor_lt_two_pow (n := 8) ha hb
theorem table_bs (x : BitVec 32) (c : UInt8) : (x <<< 8) ^^^ row ((hi x).toNat ^^^ c.toNat) = bs x c := by
  have h1 := hi_toNat x
  have lc := UInt8.toNat_lt c
  have lh := UInt8.toNat_lt (hi x)
  have hx : top (hi x) ^^^ top c = BitVec.ofNat 32 (((hi x).toNat ^^^ c.toNat) * 16777216) := by
    apply BitVec.eq_of_toNat_eq
    have := xor_lt lh lc
    rw [BitVec.toNat_xor, top_toNat, top_toNat, of_toNat _ (by omega)]
    rw [show (16777216 : Nat) = 2 ^ 24 by decide, ← Nat.shiftLeft_eq, ← Nat.shiftLeft_eq, ← Nat.shiftLeft_eq, ← Nat.shiftLeft_xor_distrib]
  unfold row
  rw [← hx]
  have hb := bs_hi x
  unfold bs at hb ⊢
  rw [← hb, ← shN_xor]
  congr 1
  rw [BitVec.xor_assoc, ← BitVec.xor_assoc (top (hi x)), BitVec.xor_self, BitVec.zero_xor]
end Go.Proofs.Ytfadhgbhdoddpaa.CrP
