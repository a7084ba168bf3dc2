/- How many packets sections are, in plain Lean: positions. -/
import Derived.Test.YteabmloeopoehaaPkB
namespace Go.Proofs.Yteabmloeopoehaa.PaP
open Go Go.Proofs.Yteabmloeopoehaa.St

/-- behind d bytes: what is left of the one that was begun, and those behind it -/
def dr : Nat → Nat → List Nat → Nat × List Nat
  | d, r, [] => (r - d, [])
  | d, r, x :: t => if d ≤ r then (r - d, x :: t) else dr (d - r) x t
theorem dr_add (e : Nat) : ∀ (ls : List Nat) (d r : Nat), dr e (dr d r ls).1 (dr d r ls).2 = dr (d + e) r ls
  | [], d, r => by simp [dr]; omega
  | x :: t, d, r => by
    rw [dr]
    split
    · rename_i h
      rw [dr, dr]
      by_cases h2 : e ≤ r - d
      · rw [if_pos h2, if_pos (by omega)]; congr 1; omega
      · rw [if_neg h2, if_neg (by omega)]; congr 1; omega
    · rename_i h
      rw [dr_add e t, dr, if_neg (by omega)]
      congr 1
      omega
/-- as long as there are bytes, and none is empty: it goes on -/
theorem dr_end : ∀ (ls : List Nat) (d r : Nat), (∀ x ∈ ls, 0 < x) → ((dr d r ls).1 = 0 ∧ (dr d r ls).2 = [] ↔ r + ls.sum ≤ d)
  | [], d, r, _ => by simp [dr]; omega
  | x :: t, d, r, h => by
    rw [dr]
    have hx := h x (by simp)
    split
    · rename_i hd
      simp
      omega
    · rename_i hd
      rw [dr_end t (d - r) x (fun y hy => h y (by simp [hy]))]
      simp
      omega
theorem dr_le : ∀ (ls : List Nat) (d r : Nat), d + (dr d r ls).1 ≤ max d (r + ls.sum)
  | [], d, r => by simp [dr]; omega
  | x :: t, d, r => by
    rw [dr]
    split
    · simp; omega
    · have := dr_le t (d - r) x
      simp
      omega
theorem dr_sum : ∀ (ls : List Nat) (d r : Nat), (dr d r ls).1 + (dr d r ls).2.sum = r + ls.sum - d
  | [], d, r => by simp [dr]
  | x :: t, d, r => by
    rw [dr]
    split
    · simp; omega
    · have := dr_sum t (d - r) x
      simp
      omega
/-- a packet's end, by its beginning -/
def fp (ls : List Nat) (p : Nat) : Nat := p + (if 184 ≤ (dr p 0 ls).1 then 184 else 183)
def pos (ls : List Nat) : Nat → Nat
  | 0 => 0
  | k + 1 => fp ls (pos ls k)
theorem fp_ge (ls : List Nat) (p : Nat) : p + 183 ≤ fp ls p ∧ fp ls p ≤ p + 184 := by unfold fp; split <;> omega
theorem fp_mono (ls : List Nat) {p q : Nat} (h : p ≤ q) : fp ls p ≤ fp ls q := by
  rcases Nat.eq_or_lt_of_le h with rfl | h
  · exact Nat.le_refl _
  · have := fp_ge ls p; have := fp_ge ls q; omega
theorem pos_ge (ls : List Nat) : ∀ k, 183 * k ≤ pos ls k ∧ pos ls k ≤ 184 * k
  | 0 => by simp [pos]
  | k + 1 => by have := pos_ge ls k; have := fp_ge ls (pos ls k); rw [pos]; omega
def Steps (ls : List Nat) (K : Nat) : Prop := ls.sum ≤ pos ls K ∧ ∀ j, j < K → pos ls j < ls.sum
theorem Steps.unique {ls : List Nat} {K K' : Nat} (h : Steps ls K) (h' : Steps ls K') : K = K' := by
  rcases Nat.lt_trichotomy K K' with hl | he | hl
  · have := h'.2 K hl; have := h.1; omega
  · exact he
  · have := h.2 K' hl; have := h'.1; omega
theorem Steps.le {ls : List Nat} {K k : Nat} (h : Steps ls K) (hk : ls.sum ≤ pos ls k) : K ≤ k := by
  rcases Nat.lt_or_ge k K with hl | hl
  · have := h.2 k hl; omega
  · exact hl
theorem steps_ex (ls : List Nat) : ∃ K, Steps ls K := by
  have key : ∀ n k, k + n = ls.sum → (∀ j, j < k → pos ls j < ls.sum) → ∃ K, Steps ls K := by
    intro n
    induction n with
    | zero =>
      intro k hk h
      exact ⟨k, by have := pos_ge ls k; omega, h⟩
    | succ n ih =>
      intro k hk h
      by_cases hp : ls.sum ≤ pos ls k
      · exact ⟨k, hp, h⟩
      · refine ih (k + 1) (by omega) (fun j hj => ?_)
        rcases Nat.lt_or_ge j k with h1 | h1
        · exact h j h1
        · obtain rfl : j = k := by omega
          omega
  exact key ls.sum 0 (by omega) (fun j hj => by omega)
/-- how many packets sections are -/
noncomputable def nP (ls : List Nat) : Nat := Classical.choose (steps_ex ls)
theorem nP_steps (ls : List Nat) : Steps ls (nP ls) := Classical.choose_spec (steps_ex ls)
theorem Steps.eq {ls : List Nat} {K : Nat} (h : Steps ls K) : nP ls = K := (nP_steps ls).unique h
/-- as many packets as all bytes need -/
theorem nP_bytes (ls : List Nat) : (ls.sum + 183) / 184 ≤ nP ls := by
  have := (nP_steps ls).1
  have := pos_ge ls (nP ls)
  omega
theorem nP_le (ls : List Nat) : nP ls ≤ ls.sum / 183 + 1 := by
  rcases Nat.eq_zero_or_pos (nP ls) with h | h
  · omega
  · have := (nP_steps ls).2 (nP ls - 1) (by omega)
    have := pos_ge ls (nP ls - 1)
    omega
theorem pos_one (x : Nat) (L : List Nat) : ∀ k, min (pos [x] k) x ≤ pos (x :: L) k
  | 0 => by simp [pos]
  | k + 1 => by
    have ih := pos_one x L k
    rw [pos, pos]
    by_cases hx : x ≤ pos (x :: L) k
    · have := fp_ge (x :: L) (pos (x :: L) k); omega
    · have hq : pos [x] k ≤ pos (x :: L) k := by omega
      have h1 := fp_mono (x :: L) hq
      have h2 : fp (x :: L) (pos [x] k) = fp [x] (pos [x] k) := by
        unfold fp
        rw [dr, dr]
        by_cases h0 : pos [x] k ≤ 0
        · rw [if_pos h0, if_pos h0]
        · rw [if_neg h0, if_neg h0]
          cases L with
          | nil => rfl
          | cons y t =>
            have e1 : dr (pos [x] k - 0) x (y :: t) = (x - (pos [x] k - 0), y :: t) := by rw [dr, if_pos (by omega)]
            rw [e1, dr]
      omega
theorem pos_add (x : Nat) (L : List Nat) (hx : 0 < x) (k1 : Nat) (h1 : x ≤ pos (x :: L) k1) : ∀ j, x + pos L j ≤ pos (x :: L) (k1 + j)
  | 0 => by simp [pos]; exact h1
  | j + 1 => by
    have ih := pos_add x L hx k1 h1 j
    rw [← Nat.add_assoc, pos, pos]
    have h2 := fp_mono (x :: L) ih
    have h3 : fp (x :: L) (x + pos L j) = x + fp L (pos L j) := by
      unfold fp
      have e : dr x 0 (x :: L) = (0, L) := by
        rw [dr, if_neg (by omega)]
        cases L with
        | nil => simp [dr]
        | cons y t => rw [dr, if_pos (by omega)]; simp
      have := dr_add (pos L j) (x :: L) x 0
      rw [e] at this
      have e2 : dr (pos L j) 0 L = dr (x + pos L j) 0 (x :: L) := this
      rw [← e2]
      omega
    omega
/-- together no more than each one for itself -/
theorem nP_cons (x : Nat) (L : List Nat) (hx : 0 < x) : nP (x :: L) ≤ nP [x] + nP L := by
  apply (nP_steps (x :: L)).le
  have h1 := pos_one x L (nP [x])
  have h2 := (nP_steps [x]).1
  have h3 := (nP_steps L).1
  simp at h2
  have := pos_add x L hx (nP [x]) (by omega) (nP L)
  simp
  omega
theorem nP_each : ∀ (L : List Nat), (∀ x ∈ L, 0 < x) → nP L ≤ (L.map (fun x => nP [x])).sum
  | [], _ => by
    have : Steps [] 0 := ⟨by simp [pos], fun j hj => by omega⟩
    rw [this.eq]
    simp
  | x :: t, h => by
    have := nP_cons x t (h x (by simp))
    have := nP_each t (fun y hy => h y (by simp [hy]))
    simp
    omega
end Go.Proofs.Yteabmloeopoehaa.PaP
