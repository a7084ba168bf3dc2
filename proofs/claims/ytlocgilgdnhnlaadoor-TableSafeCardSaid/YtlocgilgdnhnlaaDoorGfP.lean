/- Bytes as numbers of the field: powers of 2, logarithms, products, sums. -/
import Derived.WalkKit
namespace Go.Proofs.YtlocgilgdnhnlaaDoor.GfP
/-- twice -/
def dbl (x : UInt8) : UInt8 := if 128 ≤ x.toNat then (x + x) ^^^ 29 else x + x
def ex : Nat → UInt8
  | 0 => 1
  | n + 1 => dbl (ex n)
/-- the logarithm, of the first i powers (0: none) -/
def logI : Nat → UInt8 → Nat
  | 0, _ => 0
  | i + 1, a => if a = ex i then i else logI i a
def lg (a : UInt8) : Nat := logI 255 a
def gm (a b : UInt8) : UInt8 := if a = 0 ∨ b = 0 then 0 else ex (lg a + lg b)
def gi (a : UInt8) : UInt8 := if a = 0 then 0 else ex (255 - lg a)

/-- the powers as a list -/
def exL : Nat → UInt8 → List UInt8
  | 0, _ => []
  | n + 1, x => x :: exL n (dbl x)
theorem exL_get : ∀ (n i k : Nat), i < n → (exL n (ex k))[i]? = some (ex (k + i))
  | 0, i, k, h => by omega
  | n + 1, 0, k, h => rfl
  | n + 1, i + 1, k, h => by
    rw [exL, List.getElem?_cons_succ, show dbl (ex k) = ex (k + 1) from rfl, exL_get n i (k + 1) (by omega)]
    congr 2
    omega
theorem exL_len : ∀ (n : Nat) (x : UInt8), (exL n x).length = n
  | 0, _ => rfl
  | n + 1, x => by rw [exL, List.length_cons, exL_len]
def nodupB : List Nat → Bool
  | [] => true
  | a :: t => t.all (fun b => !(a == b)) && nodupB t
theorem nodup_of : ∀ {l : List Nat}, nodupB l = true → l.Nodup
  | [], _ => List.nodup_nil
  | a :: t, h => by
    simp only [nodupB, Bool.and_eq_true, List.all_eq_true, Bool.not_eq_true', beq_eq_false_iff_ne] at h
    exact List.nodup_cons.2 ⟨fun hm => h.1 a hm rfl, nodup_of h.2⟩
set_option maxRecDepth 100000
theorem L_nodup : ((exL 255 1).map UInt8.toNat).Nodup := nodup_of (by decide +kernel)
theorem L_all : ((List.range 255).all fun i => ((exL 255 1).map UInt8.toNat).contains (i + 1)) = true := by decide +kernel
theorem L_pos : (((exL 255 1).map UInt8.toNat).all fun x => !(x == 0)) = true := by decide +kernel
theorem ex_last : ex 255 = 1 := by decide +kernel
theorem L_get (i : Nat) (h : i < 255) : ((exL 255 1).map UInt8.toNat)[i]? = some (ex i).toNat := by
  rw [List.getElem?_map, show (1 : UInt8) = ex 0 from rfl, exL_get 255 i 0 h, Nat.zero_add]; rfl
theorem ex_inj {i j : Nat} (hi : i < 255) (hj : j < 255) (h : ex i = ex j) : i = j := by
  have h1 := L_get i hi
  have h2 := L_get j hj
  rw [h] at h1
  exact (List.getElem?_inj (by rw [List.length_map, exL_len]; exact hi) L_nodup).1 (h1.trans h2.symm)
theorem ex_per (n : Nat) : ex (n + 255) = ex n := by
  induction n with
  | zero => rw [Nat.zero_add, ex_last]; rfl
  | succ n ih => rw [show n + 1 + 255 = (n + 255) + 1 by omega, ex, ih, ex]
theorem ex_mod (n : Nat) : ex (n % 255) = ex n := by
  have : ∀ k m : Nat, ex (m + 255 * k) = ex m := fun k => by
    induction k with
    | zero => intro m; rfl
    | succ k ih => intro m; rw [show m + 255 * (k + 1) = (m + 255 * k) + 255 by omega, ex_per, ih]
  have h := this (n / 255) (n % 255)
  rw [Nat.mod_add_div] at h
  exact h.symm
theorem ex_ne (n : Nat) : ex n ≠ 0 := by
  have h : ∀ i, i < 255 → ex i ≠ 0 := fun i hi e => by
    have h1 := List.all_eq_true.1 L_pos (ex i).toNat (List.mem_of_getElem? (L_get i hi))
    rw [e] at h1
    exact absurd h1 (by decide)
  rw [← ex_mod]
  exact h _ (Nat.mod_lt _ (by decide))
theorem ex_has (a : UInt8) (ha : a ≠ 0) : ∃ i, i < 255 ∧ ex i = a := by
  have hn : a.toNat ≠ 0 := fun e => ha (UInt8.toNat_inj.1 e)
  have hl : a.toNat < 256 := a.toNat_lt
  have h := List.all_eq_true.1 L_all (a.toNat - 1) (List.mem_range.2 (by omega))
  rw [show a.toNat - 1 + 1 = a.toNat by omega, List.contains_iff_mem] at h
  obtain ⟨i, hi⟩ := List.mem_iff_getElem?.1 h
  have hl : i < 255 := by
    have := (List.getElem?_eq_some_iff.1 hi).1
    rwa [List.length_map, exL_len] at this
  rw [L_get i hl] at hi
  exact ⟨i, hl, UInt8.toNat_inj.1 (Option.some.inj hi)⟩
theorem logI_ex : ∀ (n i : Nat), i < n → n ≤ 255 → logI n (ex i) = i
  | 0, i, h, _ => by omega
  | n + 1, i, h, hn => by
    rw [logI]
    by_cases e : ex i = ex n
    · rw [if_pos e]; exact (ex_inj (by omega) (by omega) e).symm
    · rw [if_neg e]
      have : i ≠ n := fun h => e (by rw [h])
      exact logI_ex n i (by omega) (by omega)
theorem lg_ex (i : Nat) (h : i < 255) : lg (ex i) = i := logI_ex 255 i h (Nat.le_refl _)
theorem lg_mod (i : Nat) : lg (ex i) = i % 255 := by rw [← ex_mod]; exact lg_ex _ (Nat.mod_lt _ (by decide))
theorem ex_lg (a : UInt8) (ha : a ≠ 0) : ex (lg a) = a := by
  obtain ⟨i, hi, rfl⟩ := ex_has a ha
  rw [lg_ex i hi]
theorem logI_lt : ∀ (n : Nat) (a : UInt8), 0 < n → logI n a < n
  | 0, _, h => by omega
  | n + 1, a, _ => by
    rw [logI]
    split
    · omega
    · rcases Nat.eq_zero_or_pos n with rfl | h
      · simp [logI]
      · have := logI_lt n a h; omega
theorem lg_lt (a : UInt8) : lg a < 255 := logI_lt 255 a (by decide)
theorem gm_ex (i j : Nat) : gm (ex i) (ex j) = ex (i + j) := by
  unfold gm
  rw [if_neg (by rintro (h | h) <;> exact ex_ne _ h), lg_mod, lg_mod, ← ex_mod, ← Nat.add_mod, ex_mod]
@[simp] theorem gm_zero (a : UInt8) : gm a 0 = 0 := if_pos (Or.inr rfl)
@[simp] theorem zero_gm (a : UInt8) : gm 0 a = 0 := if_pos (Or.inl rfl)
theorem gm_comm (a b : UInt8) : gm a b = gm b a := by
  unfold gm
  rw [Nat.add_comm]
  by_cases h : a = 0 ∨ b = 0
  · rw [if_pos h, if_pos h.symm]
  · rw [if_neg h, if_neg (fun k => h k.symm)]
theorem gm_one (a : UInt8) : gm a 1 = a := by
  by_cases h : a = 0
  · subst h; rw [zero_gm]
  · obtain ⟨i, _, rfl⟩ := ex_has a h
    exact gm_ex i 0
theorem one_gm (a : UInt8) : gm 1 a = a := by rw [gm_comm, gm_one]
theorem gm_assoc (a b c : UInt8) : gm (gm a b) c = gm a (gm b c) := by
  by_cases ha : a = 0
  · subst ha; simp
  by_cases hb : b = 0
  · subst hb; simp
  by_cases hc : c = 0
  · subst hc; simp
  obtain ⟨i, _, rfl⟩ := ex_has a ha
  obtain ⟨j, _, rfl⟩ := ex_has b hb
  obtain ⟨k, _, rfl⟩ := ex_has c hc
  rw [gm_ex, gm_ex, gm_ex, gm_ex, Nat.add_assoc]
theorem gm_ne {a b : UInt8} (ha : a ≠ 0) (hb : b ≠ 0) : gm a b ≠ 0 := by
  unfold gm
  rw [if_neg (by rintro (h | h); exact ha h; exact hb h)]
  exact ex_ne _
theorem gm_gi {a : UInt8} (ha : a ≠ 0) : gm a (gi a) = 1 := by
  have h := lg_lt a
  unfold gi
  rw [if_neg ha]
  have h2 := gm_ex (lg a) (255 - lg a)
  rw [ex_lg a ha, show lg a + (255 - lg a) = 255 by omega, ex_last] at h2
  exact h2
theorem gi_ne {a : UInt8} (ha : a ≠ 0) : gi a ≠ 0 := by unfold gi; rw [if_neg ha]; exact ex_ne _
theorem dbl_zero : dbl 0 = 0 := rfl
theorem dbl_bv (x : UInt8) : (dbl x).toBitVec = (x.toBitVec <<< 1) ^^^ (if x.toBitVec.msb then 29#8 else 0#8) := by
  have h : ∀ y : BitVec 8, y + y = y <<< 1 := fun y => by
    apply BitVec.eq_of_toNat_eq
    rw [BitVec.toNat_add, BitVec.toNat_shiftLeft, Nat.shiftLeft_eq]
    congr 1
    omega
  have hm : x.toBitVec.msb = decide (128 ≤ x.toNat) := by
    rw [BitVec.msb_eq_decide]
    rfl
  unfold dbl
  rw [hm]
  by_cases hx : 128 ≤ x.toNat
  · rw [if_pos hx, decide_eq_true hx]
    simp only [if_true, UInt8.toBitVec_xor, UInt8.toBitVec_add, h]
    rfl
  · rw [if_neg hx, decide_eq_false hx]
    simp [UInt8.toBitVec_add, h]
theorem dbl_xor (a b : UInt8) : dbl (a ^^^ b) = dbl a ^^^ dbl b := by
  apply UInt8.toBitVec_inj.1
  rw [UInt8.toBitVec_xor, dbl_bv, dbl_bv, dbl_bv, UInt8.toBitVec_xor, BitVec.msb_xor, BitVec.shiftLeft_xor_distrib]
  have key : ∀ u v : Bool, (if (u ^^ v) = true then 29#8 else 0#8) = (if u = true then 29#8 else 0#8) ^^^ (if v = true then 29#8 else 0#8) := by decide
  rw [key]
  ac_rfl
def dblN : Nat → UInt8 → UInt8
  | 0, x => x
  | n + 1, x => dbl (dblN n x)
theorem dblN_ex (n k : Nat) : dblN n (ex k) = ex (n + k) := by
  induction n with
  | zero => rw [Nat.zero_add]; rfl
  | succ n ih => rw [dblN, ih, show n + 1 + k = (n + k) + 1 by omega, ex]
theorem dblN_zero (n : Nat) : dblN n 0 = 0 := by
  induction n with
  | zero => rfl
  | succ n ih => rw [dblN, ih, dbl_zero]
theorem dblN_xor (n : Nat) (a b : UInt8) : dblN n (a ^^^ b) = dblN n a ^^^ dblN n b := by
  induction n with
  | zero => rfl
  | succ n ih => rw [dblN, ih, dbl_xor]; rfl
theorem gm_dbl (i : Nat) (b : UInt8) : gm (ex i) b = dblN i b := by
  by_cases h : b = 0
  · subst h; rw [gm_zero, dblN_zero]
  · obtain ⟨j, _, rfl⟩ := ex_has b h
    rw [gm_ex, dblN_ex]
theorem gm_xor (a b c : UInt8) : gm a (b ^^^ c) = gm a b ^^^ gm a c := by
  by_cases h : a = 0
  · subst h; simp
  · obtain ⟨i, _, rfl⟩ := ex_has a h
    rw [gm_dbl, gm_dbl, gm_dbl, dblN_xor]
theorem xor_gm (a b c : UInt8) : gm (a ^^^ b) c = gm a c ^^^ gm b c := by rw [gm_comm, gm_xor, gm_comm c a, gm_comm c b]
theorem xx (a : UInt8) : a ^^^ a = 0 := UInt8.xor_self
theorem x0 (a : UInt8) : a ^^^ 0 = a := UInt8.xor_zero
theorem gm_cancel {a b c : UInt8} (ha : a ≠ 0) (h : gm a b = gm a c) : b = c := by
  have h1 : gm (gi a) (gm a b) = gm (gi a) (gm a c) := by rw [h]
  rw [← gm_assoc, ← gm_assoc, gm_comm (gi a) a, gm_gi ha, one_gm, one_gm] at h1
  exact h1
theorem gm_left_comm (a b c : UInt8) : gm a (gm b c) = gm b (gm a c) := by rw [← gm_assoc, gm_comm a b, gm_assoc]
end Go.Proofs.YtlocgilgdnhnlaaDoor.GfP
