/- link: harms as the document's answer has them; its Pass. -/
import Derived.Test.YtbiiehobfnbloaaGreatDoorLkRef2
import Derived.Deep.RegionHeld3
import Derived.Deep.AppendLies
namespace Go.Proofs.YtbiiehobfnbloaaGreatDoor.LkRef3
open Go.RowKit Go.Proofs.YtbiiehobfnbloaaGreatDoor.Q Go.Proofs.YtbiiehobfnbloaaGreatDoor.Mem Go.Proofs.YtbiiehobfnbloaaGreatDoor.PkCut Go.Proofs.YtbiiehobfnbloaaGreatDoor.LkHarm Go.Proofs.YtbiiehobfnbloaaGreatDoor.LkPass Go.Proofs.YtbiiehobfnbloaaGreatDoor.LkRef Go.Proofs.YtbiiehobfnbloaaGreatDoor.LkRef2

def flat (L : List H) : List Value := L.flatMap fun h => [.int .i64 h.d, .int .i64 h.s, .int .i64 h.a, .int .u8 h.b]
theorem flat_length (L : List H) : (flat L).length = L.length * 4 := by
  induction L with
  | nil => rfl
  | cons h t ih => simp only [flat, List.flatMap_cons, List.length_append, List.length_cons] at ih ⊢; rw [ih]; simp; omega
theorem flat_get {L : List H} {i : Nat} {h : H} (hi : L[i]? = some h) (c : Nat) (hc : c < 4) : (flat L)[i * 4 + c]? = [Value.int .i64 h.d, .int .i64 h.s, .int .i64 h.a, .int .u8 h.b][c]? := by
  induction L generalizing i with
  | nil => simp at hi
  | cons x t ih =>
    cases i with
    | zero =>
      simp at hi
      subst hi
      simp only [flat, List.flatMap_cons, Nat.zero_mul, Nat.zero_add]
      rw [List.getElem?_append_left (by simp; omega)]
    | succ i =>
      simp at hi
      have := ih hi
      simp only [flat, List.flatMap_cons] at this ⊢
      rw [List.getElem?_append_right (by simp; omega), show (i + 1) * 4 + c - [Value.int .i64 x.d, .int .i64 x.s, .int .i64 x.a, .int .u8 x.b].length = i * 4 + c by simp; omega]
      exact this
theorem harms_bd {w : World} {a : Option Addr} {L : List H} (h : Harms w a L) : ∀ x ∈ L, (-9223372036854775808 ≤ x.d ∧ x.d ≤ 9223372036854775807) ∧ (-9223372036854775808 ≤ x.s ∧ x.s ≤ 9223372036854775807) ∧ (-9223372036854775808 ≤ x.a ∧ x.a ≤ 9223372036854775807) ∧ (0 ≤ x.b ∧ x.b < 256) := fun x hx => by
  obtain ⟨i, hi⟩ := List.getElem?_of_mem hx
  obtain ⟨_, _, _, _, _, _, _, _, r⟩ := h i x hi
  exact r
theorem cells_new (w : World) (xs : List Value) (t : TypeId) : ∀ j u, xs[j]? = some u → (w.alloc (.cells xs.toArray t)).cell? ((⟨w.heap.size, 0, none⟩ : Addr).add j) = some u := by
  intro j u hj
  have hp : (⟨w.heap.size, 0, none⟩ : Addr).add j = ⟨w.heap.size, j, none⟩ := by unfold Addr.add; split <;> simp_all
  rw [hp]
  exact Blk.cell (Blk.new w t xs.toArray) j (by simpa using hj)

def Small (A : List ByteArray) : Prop := ∀ x ∈ A, x.size ≤ 1099511627776
theorem small_get {A : List ByteArray} (h : Small A) (k : Nat) : (A[k]?.getD ByteArray.empty).size ≤ 1099511627776 := by
  cases hk : A[k]? with
  | none => exact Nat.zero_le _
  | some x => exact h x (List.mem_of_getElem? hk)
theorem small_set {A : List ByteArray} (h : Small A) (k : Nat) {x : ByteArray} (hx : x.size ≤ 1099511627776) : Small (A.set k x) := fun y hy => by
  rcases List.mem_or_eq_of_mem_set hy with h1 | h1
  · exact h y h1
  · rw [h1]; exact hx
theorem harm1_small {A : List ByteArray} (h : Small A) (x : H) : Small (harm1 A x) := by
  unfold harm1
  repeat' split
  all_goals first
    | exact h
    | exact small_set h _ (Nat.zero_le _)
    | exact small_set h _ (by rw [turnB_size]; exact small_get h _)
    | exact small_set h _ (small_get h _)
    | exact small_set (small_set h _ (small_get h _)) _ (small_get h _)
theorem cut_small (s : ByteArray) : Small (cutP s) := fun x hx => by
  simp only [cutP, pks, List.mem_map, List.mem_range] at hx
  obtain ⟨i, _, rfl⟩ := hx
  have := ByteArray.size_extract (a := s) (b := 188 * i) (e := 188 * i + 188)
  unfold pk
  omega

/-- how the document's Pass ends -/
structure RPassed (w w' : World) (e : Ending) (A : List ByteArray) : Prop where
  ret : ∃ a c, e = .returned (.tuple #[.slice a A.length c, .int .i64 2]) ∧ Strs w' a A
  be : Below w.heap.size w w'
structure RRefused (w w' : World) (e : Ending) : Prop where
  ret : e = .returned (.tuple #[.slice none 0 0, .int .i64 1])
  be : Below w.heap.size w w'

end Go.Proofs.YtbiiehobfnbloaaGreatDoor.LkRef3
