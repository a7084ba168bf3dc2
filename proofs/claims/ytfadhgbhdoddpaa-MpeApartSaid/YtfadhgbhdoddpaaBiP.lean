/- Bits, plain: a number's bits, bits as bytes. -/
import Derived.WalkKit
namespace Go.Proofs.Ytfadhgbhdoddpaa.BiP
/-- a number's lowest bits, the highest one first -/
def bitsOf (x : Nat) : Nat → List Bool
  | 0 => []
  | n + 1 => x.testBit n :: bitsOf x n
theorem bitsOf_len (x n : Nat) : (bitsOf x n).length = n := by
  induction n with
  | zero => rfl
  | succ n ih => simp [bitsOf, ih]
/-- the same, from its end -/
theorem bitsOf_snoc (x n : Nat) : bitsOf x (n + 1) = bitsOf (x / 2) n ++ [x.testBit 0] := by
  induction n with
  | zero => rfl
  | succ n ih =>
    rw [bitsOf, ih, bitsOf]
    simp [Nat.testBit_succ]
theorem bitsOf_mod (x n : Nat) : bitsOf (x % 2 ^ n) n = bitsOf x n := by
  have h : ∀ k, k ≤ n → bitsOf (x % 2 ^ n) k = bitsOf x k := by
    intro k
    induction k with
    | zero => intro _; rfl
    | succ k ih =>
      intro hk
      rw [bitsOf, bitsOf, ih (by omega), Nat.testBit_mod_two_pow]
      simp; omega
  exact h n (Nat.le_refl _)
theorem bitsOf_join (a b n m : Nat) (hb : b < 2 ^ m) : bitsOf a n ++ bitsOf b m = bitsOf (a * 2 ^ m + b) (n + m) := by
  induction n with
  | zero =>
    rw [Nat.zero_add]
    have : bitsOf (a * 2 ^ m + b) m = bitsOf ((a * 2 ^ m + b) % 2 ^ m) m := (bitsOf_mod _ _).symm
    rw [this, Nat.mul_comm, Nat.mul_add_mod, Nat.mod_eq_of_lt hb]; rfl
  | succ n ih =>
    rw [bitsOf, List.cons_append, ih, show n + 1 + m = (n + m) + 1 by omega, bitsOf]
    congr 1
    rw [Nat.mul_comm, Nat.testBit_two_pow_mul_add _ hb, if_neg (by omega), show n + m - m = n by omega]
/-- byte i of bits, with bits 0 at the end -/
def nb (b : Bool) : Nat := if b then 1 else 0
def byteB (B : List Bool) (i : Nat) : Nat := nb (B.getD (8 * i) false) * 128 + nb (B.getD (8 * i + 1) false) * 64 + nb (B.getD (8 * i + 2) false) * 32 + nb (B.getD (8 * i + 3) false) * 16 + nb (B.getD (8 * i + 4) false) * 8 + nb (B.getD (8 * i + 5) false) * 4 + nb (B.getD (8 * i + 6) false) * 2 + nb (B.getD (8 * i + 7) false)
theorem nb_le (b : Bool) : nb b ≤ 1 := by cases b <;> simp [nb]
theorem byteB_lt (B : List Bool) (i : Nat) : byteB B i < 256 := by
  unfold byteB
  have h := fun k => nb_le (B.getD k false)
  have := h (8 * i); have := h (8 * i + 1); have := h (8 * i + 2); have := h (8 * i + 3); have := h (8 * i + 4); have := h (8 * i + 5); have := h (8 * i + 6); have := h (8 * i + 7)
  omega
/-- the first n bytes -/
def pkN (B : List Bool) (n : Nat) : List UInt8 := (List.range n).map fun i => UInt8.ofNat (byteB B i)
def pk (B : List Bool) : List UInt8 := pkN B ((B.length + 7) / 8)
theorem pkN_len (B : List Bool) (n : Nat) : (pkN B n).length = n := by simp [pkN]
theorem pk_len (B : List Bool) : (pk B).length = (B.length + 7) / 8 := pkN_len _ _
theorem getD_app_lt {B C : List Bool} {k : Nat} (h : k < B.length) : (B ++ C).getD k false = B.getD k false := by
  simp [List.getD_eq_getElem?_getD, List.getElem?_append_left h]
theorem getD_app_ge {B C : List Bool} {k : Nat} (h : B.length ≤ k) : (B ++ C).getD k false = C.getD (k - B.length) false := by
  simp [List.getD_eq_getElem?_getD, List.getElem?_append_right h]
theorem getD_ge {B : List Bool} {k : Nat} (h : B.length ≤ k) : B.getD k false = false := by
  simp [List.getD_eq_getElem?_getD, List.getElem?_eq_none h]
/-- a bit more: the byte that it is in -/
theorem byteB_snoc (B : List Bool) (b : Bool) (i : Nat) : byteB (B ++ [b]) i = if i = B.length / 8 then byteB B i + nb b * 2 ^ (7 - B.length % 8) else byteB B i := by
  have key : ∀ k, (B ++ [b]).getD k false = if k = B.length then b else B.getD k false := by
    intro k
    rcases Nat.lt_trichotomy k B.length with h | h | h
    · rw [getD_app_lt h, if_neg (by omega)]
    · subst h; rw [getD_app_ge (Nat.le_refl _), if_pos rfl, Nat.sub_self]; rfl
    · rw [if_neg (by omega), getD_ge (by simp; omega), getD_ge (by omega)]
  have z : ∀ k, k = B.length → B.getD k false = false := fun k h => getD_ge (by omega)
  unfold byteB
  simp only [key]
  by_cases hi : i = B.length / 8
  · rw [if_pos hi]
    have hL : B.length = 8 * i + B.length % 8 := by omega
    have hm : B.length % 8 < 8 := by omega
    obtain ⟨r, hr⟩ : ∃ r, B.length % 8 = r := ⟨_, rfl⟩
    rw [hr] at hL hm ⊢
    have nf : nb false = 0 := rfl
    have zz : nb (B.getD (8 * i + r) false) = 0 := by rw [z _ hL.symm]; rfl
    match r, hm with
    | 0, _ | 1, _ | 2, _ | 3, _ | 4, _ | 5, _ | 6, _ | 7, _ =>
      simp only [hL, Nat.add_zero, Nat.add_left_cancel_iff, Nat.reduceEqDiff, if_true, if_false, Nat.add_eq_left, Nat.left_eq_add] at zz ⊢
      simp only [Nat.reduceSub, Nat.reducePow]
      omega
  · rw [if_neg hi]
    have n0 : ∀ j, j < 8 → ¬ (8 * i + j = B.length) := fun j hj h => hi (by omega)
    rw [if_neg (show ¬ 8 * i = B.length from n0 0 (by omega)), if_neg (n0 1 (by omega)), if_neg (n0 2 (by omega)), if_neg (n0 3 (by omega)), if_neg (n0 4 (by omega)), if_neg (n0 5 (by omega)), if_neg (n0 6 (by omega)), if_neg (n0 7 (by omega))]
/-- the bytes, with one bit more -/
theorem pk_snoc (B : List Bool) (b : Bool) : pk (B ++ [b]) = (pkN B (B.length / 8 + 1)).set (B.length / 8) (UInt8.ofNat (byteB B (B.length / 8) + nb b * 2 ^ (7 - B.length % 8))) := by
  unfold pk
  have hl : ((B ++ [b]).length + 7) / 8 = B.length / 8 + 1 := by simp; omega
  rw [hl]
  apply List.ext_getElem?
  intro i
  unfold pkN
  rw [List.getElem?_map, List.getElem?_set, List.getElem?_map]
  by_cases hi : i < B.length / 8 + 1
  · rw [List.getElem?_range hi]
    simp only [Option.map_some, byteB_snoc, List.length_map, List.length_range]
    by_cases h2 : B.length / 8 = i
    · rw [if_pos h2.symm, if_pos h2, if_pos (by omega), h2]
    · rw [if_neg (fun h => h2 h.symm), if_neg h2]
  · rw [List.getElem?_eq_none (by simp; omega)]
    rw [if_neg (by omega)]
    rfl
/-- ahead of it a byte 0 is laid, where one begins -/
theorem pkN_open (B : List Bool) : pkN B (B.length / 8 + 1) = if B.length % 8 = 0 then pk B ++ [0] else pk B := by
  split
  · rename_i h
    have e : (B.length + 7) / 8 = B.length / 8 := by omega
    unfold pk
    rw [e]
    unfold pkN
    rw [List.range_succ, List.map_append]
    congr 1
    have hz : ∀ j, B.getD (8 * (B.length / 8) + j) false = false := fun j => getD_ge (by omega)
    have hz0 := hz 0
    rw [Nat.add_zero] at hz0
    simp only [List.map_cons, List.map_nil, byteB, hz, hz0]
    rfl
  · rename_i h
    have e : (B.length + 7) / 8 = B.length / 8 + 1 := by omega
    unfold pk
    rw [e]
/-- a whole byte in front -/
theorem pk_cons (x : Nat) (R : List Bool) : pk (bitsOf x 8 ++ R) = UInt8.ofNat x :: pk R := by
  unfold pk
  have hl : ((bitsOf x 8 ++ R).length + 7) / 8 = (R.length + 7) / 8 + 1 := by rw [List.length_append, bitsOf_len]; omega
  rw [hl]
  unfold pkN
  rw [List.range_succ_eq_map, List.map_cons, List.map_map]
  congr 1
  · have : byteB (bitsOf x 8 ++ R) 0 = x % 256 := by
      have hb : ∀ k, nb (x.testBit k) = x / 2 ^ k % 2 := fun k => by
        rw [Nat.testBit_eq_decide_div_mod_eq]
        unfold nb
        by_cases h : x / 2 ^ k % 2 = 1
        · simp [h]
        · simp [h]; omega
      have h0 : ∀ k, k < 8 → (bitsOf x 8 ++ R).getD k false = x.testBit (7 - k) := fun k hk => by
        rw [getD_app_lt (by rw [bitsOf_len]; exact hk)]
        match k, hk with
        | 0, _ | 1, _ | 2, _ | 3, _ | 4, _ | 5, _ | 6, _ | 7, _ => rfl
      unfold byteB
      rw [Nat.mul_zero, h0 0 (by omega), h0 (0 + 1) (by omega), h0 (0 + 2) (by omega), h0 (0 + 3) (by omega), h0 (0 + 4) (by omega), h0 (0 + 5) (by omega), h0 (0 + 6) (by omega), h0 (0 + 7) (by omega)]
      simp only [hb]
      simp only [Nat.reduceSub, Nat.reducePow, Nat.reduceAdd]
      omega
    rw [this]
    apply UInt8.toNat_inj.1
    simp
theorem pk_nil : pk [] = [] := rfl
/-- bytes, bit by bit -/
def bitsL (l : List UInt8) : List Bool := l.flatMap fun b => bitsOf b.toNat 8
theorem pk_bytes (l : List UInt8) : pk (bitsL l) = l := by
  induction l with
  | nil => rfl
  | cons b t ih =>
    show pk (bitsOf b.toNat 8 ++ bitsL t) = _
    rw [pk_cons, ih]; simp
theorem bitsL_len (l : List UInt8) : (bitsL l).length = 8 * l.length := by
  induction l with
  | nil => rfl
  | cons b t ih =>
    show (bitsOf b.toNat 8 ++ bitsL t).length = _
    rw [List.length_append, bitsOf_len, ih, List.length_cons]; omega
theorem bitsL_snoc (l : List UInt8) (b : UInt8) : bitsL (l ++ [b]) = bitsL l ++ bitsOf b.toNat 8 := by simp [bitsL]
theorem bitsOf_two (x : Nat) : bitsOf x 16 = bitsOf (x / 256) 8 ++ bitsOf (x % 256) 8 := by
  rw [bitsOf_join _ _ 8 8 (by omega)]
  congr 1
  omega
end Go.Proofs.Ytfadhgbhdoddpaa.BiP
