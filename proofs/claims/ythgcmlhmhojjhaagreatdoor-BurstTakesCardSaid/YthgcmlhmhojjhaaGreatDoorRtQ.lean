/- The document's table: Out. -/
import Derived.Test.YthgcmlhmhojjhaaGreatDoorRtP
namespace Go.Proofs.YthgcmlhmhojjhaaGreatDoor.RtQ
open Go Go.RowKit Go.Proofs.YthgcmlhmhojjhaaGreatDoor.Q Go.Proofs.YthgcmlhmhojjhaaGreatDoor.Mem Go.Proofs.YthgcmlhmhojjhaaGreatDoor.Rg Go.Proofs.YthgcmlhmhojjhaaGreatDoor.Ap Go.Proofs.YthgcmlhmhojjhaaGreatDoor.ApG Go.Proofs.YthgcmlhmhojjhaaGreatDoor.St Go.Proofs.YthgcmlhmhojjhaaGreatDoor.BiW Go.Proofs.YthgcmlhmhojjhaaGreatDoor.TlS Go.Proofs.YthgcmlhmhojjhaaGreatDoor.TbM Go.Proofs.YthgcmlhmhojjhaaGreatDoor.TbN Go.Proofs.YthgcmlhmhojjhaaGreatDoor.TbO Go.Proofs.YthgcmlhmhojjhaaGreatDoor.TbP Go.Proofs.YthgcmlhmhojjhaaGreatDoor.TbQ Go.Proofs.YthgcmlhmhojjhaaGreatDoor.TbR Go.Proofs.YthgcmlhmhojjhaaGreatDoor.TbT Go.Proofs.YthgcmlhmhojjhaaGreatDoor.TbU Go.Proofs.YthgcmlhmhojjhaaGreatDoor.RtM Go.Proofs.YthgcmlhmhojjhaaGreatDoor.RtN Go.Proofs.YthgcmlhmhojjhaaGreatDoor.RtO Go.Proofs.YthgcmlhmhojjhaaGreatDoor.RtP

set_option maxRecDepth 100000
theorem take_below {L : List Nat} (hs : L.Pairwise (· < ·)) (p : Nat) : ∀ z ∈ L.take (below L p), z < p := by
  induction L with
  | nil => intro z hz; simp at hz
  | cons x t ih =>
    intro z hz
    have ht := List.pairwise_cons.1 hs
    unfold below at hz
    rw [List.countP_cons] at hz
    by_cases hx : x < p
    · simp only [hx, decide_true, if_true, List.take_succ_cons] at hz
      rcases List.mem_cons.1 hz with rfl | hz
      · exact hx
      · exact ih ht.2 z hz
    · simp only [hx, decide_false, Bool.false_eq_true, if_false, Nat.add_zero] at hz
      have h0 : t.countP (fun z => decide (z < p)) = 0 := by
        rw [List.countP_eq_zero]
        intro y hy
        have := ht.1 y hy
        simp; omega
      rw [h0, List.take_zero] at hz
      cases hz
theorem in_drop {L : List Nat} (hs : L.Pairwise (· < ·)) {p q : Nat} (hq : q ∈ L) (hp : p ≤ q) : q ∈ L.drop (below L p) := by
  have : q ∈ L.take (below L p) ++ L.drop (below L p) := by rw [List.take_append_drop]; exact hq
  rcases List.mem_append.1 this with h | h
  · have := take_below hs p q h; omega
  · exact h
theorem nxt_is {S : Tb} (hs : S.st.Pairwise (· < ·)) {p q : Nat} (hq : q ∈ S.st) (hpq : p < q) (hm : ∀ z ∈ S.st, p < z → q ≤ z) : nxt S p = some q := by
  have hd := in_drop hs hq (show p + 1 ≤ q by omega)
  unfold nxt
  have hsd : (S.st.drop (below S.st (p + 1))).Pairwise (· < ·) := hs.sublist (List.drop_sublist _ _)
  have hlow := drop_below hs (p + 1)
  have hmem : ∀ z ∈ S.st.drop (below S.st (p + 1)), z ∈ S.st := fun z hz => List.mem_of_mem_drop hz
  cases hL : S.st.drop (below S.st (p + 1)) with
  | nil => rw [hL] at hd; cases hd
  | cons x t =>
    rw [hL] at hd hsd hlow hmem
    have hx := hm x (hmem x (List.mem_cons_self ..)) (by have := hlow x (List.mem_cons_self ..); omega)
    rcases List.mem_cons.1 hd with rfl | hd
    · rfl
    · have := (List.pairwise_cons.1 hsd).1 q hd
      omega
theorem nxt_no {S : Tb} (hs : S.st.Pairwise (· < ·)) {p : Nat} (hm : ∀ z ∈ S.st, ¬ p < z) : nxt S p = none := by
  cases h : nxt S p with
  | none => rfl
  | some q => exact absurd (nxt_gt hs h) (hm q (nxt_mem h))
theorem dN_end (S : Tb) : dN S (191 * S.R) = 0 := by
  have h1 := fsN_le (knS S (191 * S.R))
  rw [kn_size] at h1
  have h2 : kn S (191 * S.R) 4080 = 0 := by
    rcases kn_in S 4080 (191 * S.R) with h | h
    · omega
    · exact h
  unfold dN
  omega
theorem outAt_last {S : Tb} (hok : Ok S) : outAt S (191 * S.R) = [] :=
  outAt_end (Nat.le_refl _) (by rw [dN_end]; omega) (nxt_no hok.up (fun z hz => by have := hok.lt z hz; omega))
def fsts (A : List (Nat × Nat)) : List Nat := A.map (·.1)
def snds (A : List (Nat × Nat)) : List Nat := A.map (·.2)
end Go.Proofs.YthgcmlhmhojjhaaGreatDoor.RtQ
