/- SliceMany: plain facts. -/
import Derived.Test.YteabmloeopoehaaSlC
import Derived.Test.YteabmloeopoehaaMpP
namespace Go.Proofs.Yteabmloeopoehaa.SlP
open Go Go.Proofs.Yteabmloeopoehaa.St Go.Proofs.Yteabmloeopoehaa.CrC Go.Proofs.Yteabmloeopoehaa.PaA Go.Proofs.Yteabmloeopoehaa.PaK Go.Proofs.Yteabmloeopoehaa.PaP Go.Proofs.Yteabmloeopoehaa.SlM Go.Proofs.Yteabmloeopoehaa.SlA Go.Proofs.Yteabmloeopoehaa.SlB Go.Proofs.Yteabmloeopoehaa.SlC

theorem first_app (A : List ByteArray) (s : ByteArray) : firstE (A ++ [s]) = if firstE A = 0 then paE s else firstE A := by
  induction A with
  | nil =>
    simp only [List.nil_append, firstE, if_true]
    split
    · rename_i h; exact h.symm
    · rfl
  | cons x t ih =>
    simp only [List.cons_append, firstE]
    split
    · exact ih
    · rename_i h
      rfl
theorem take_snoc {S : List ByteArray} {q : Nat} {s : ByteArray} (h : S[q]? = some s) : S.take (q + 1) = S.take q ++ [s] := by rw [List.take_add_one, h]; rfl
theorem one_E (s : ByteArray) : manyE [s] = paE s := by
  unfold manyE
  rw [if_neg (by simp), firstE]
  split
  · rename_i h; rw [h]; rfl
  · rfl
theorem one_N (s : ByteArray) : manyN [s] = if paE s = 0 then nP [s.size] else 0 := by
  unfold manyN
  rw [one_E]
  rfl
/-- the packets of each one for itself -/
noncomputable def eachN (S : List ByteArray) : Nat := (S.map fun s => manyN [s]).sum
theorem each_app (A : List ByteArray) (s : ByteArray) : eachN (A ++ [s]) = eachN A + manyN [s] := by simp [eachN]
theorem bytes_app (A : List ByteArray) (s : ByteArray) : ((A ++ [s]).map ByteArray.size).sum = (A.map ByteArray.size).sum + s.size := by simp
theorem each_ge {S : List ByteArray} (h : manyE S = 0) : manyN S ≤ eachN S := by
  have h0 : firstE S = 0 := by
    unfold manyE at h
    split at h
    · cases h
    · exact h
  have hok := first_ok h0
  have h1 : manyN S = nP (S.map ByteArray.size) := if_pos h
  have h2 := nP_each (S.map ByteArray.size) (by intro x hx; obtain ⟨s, hs, rfl⟩ := List.mem_map.1 hx; exact size_pos hok s hs)
  have h3 : eachN S = ((S.map ByteArray.size).map (fun x => nP [x])).sum := by
    unfold eachN
    rw [List.map_map]
    congr 1
    apply List.map_congr_left
    intro s hs
    rw [one_N, if_pos (hok s hs)]
    rfl
  rw [h1, h3]
  exact h2
theorem bytes_le {S : List ByteArray} (h : manyE S = 0) : ((S.map ByteArray.size).sum + 183) / 184 ≤ manyN S := by
  rw [show manyN S = nP (S.map ByteArray.size) from if_pos h]
  exact nP_bytes _
theorem one_each {S : List ByteArray} (h : S.length = 1) : manyN S = eachN S := by
  match S, h with
  | [s], _ => simp [eachN]
theorem sum_B {B : Nat} : ∀ {S : List ByteArray}, (∀ s ∈ S, s.size ≤ B) → (S.map ByteArray.size).sum ≤ B * S.length
  | [], _ => by simp
  | x :: t, h => by
    have h1 := h x (by simp)
    have h2 := sum_B (S := t) (fun s hs => h s (by simp [hs]))
    rw [List.map_cons, List.sum_cons, List.length_cons, Nat.mul_add, Nat.mul_one]
    omega
theorem manyN_le {S : List ByteArray} {B : Nat} (h : ∀ s ∈ S, s.size ≤ B) : manyN S ≤ (B * S.length) / 183 + 1 := by
  unfold manyN
  split
  · have h1 := nP_le (S.map ByteArray.size)
    have := Nat.div_le_div_right (c := 183) (sum_B h)
    omega
  · omega
end Go.Proofs.Yteabmloeopoehaa.SlP
