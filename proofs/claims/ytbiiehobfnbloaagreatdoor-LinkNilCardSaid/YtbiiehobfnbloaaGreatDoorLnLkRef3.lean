import Derived.Test.YtbiiehobfnbloaaGreatDoorLnLkRef2
import Derived.Deep.RegionHeld3
import Derived.Deep.AppendLies
namespace Go.Proofs.YtbiiehobfnbloaaGreatDoor.LkRef3
open Go.RowKit Q Mem PkCut LkHarm LkPass LkRef LkRef2
def flat (L : List H) : List Value := L.flatMap fun h => [.int .i64 h.d, .int .i64 h.s, .int .i64 h.a, .int .u8 h.b]
theorem flat_length (L : List H) : (flat L).length = L.length * 4 := by
  induction L with
  | nil => rfl
  | cons h t ih => simp only [flat, List.flatMap_cons, List.length_append, List.length_cons] at ih ⊢; rw [ih]; simp; omega
theorem flat_get {L : List H} {i : Nat} {h : H} (hi : L[i]? = some h) (c : Nat) (hc : c < 4) : (flat L)[i * 4 + c]? = [Value.int .i64 h.d, .int .i64 h.s, .int .i64 h.a, .int .u8 h.b][c]? := by
  induction L generalizing i with
  | nil => simp at hi
  | cons x t ih =>
    cases i with
    | zero =>
      simp at hi
      subst hi
      simp only [flat, List.flatMap_cons, Nat.zero_mul, Nat.zero_add]
      rw [List.getElem?_append_left (by simp; omega)]
    | succ i =>
      simp at hi
      have := ih hi
      simp only [flat, List.flatMap_cons] at this ⊢
      rw [List.getElem?_append_right (by simp; omega), show (i + 1) * 4 + c - [Value.int .i64 x.d, .int .i64 x.s, .int .i64 x.a, .int .u8 x.b].length = i * 4 + c by simp; omega]
      exact this
end Go.Proofs.YtbiiehobfnbloaaGreatDoor.LkRef3
