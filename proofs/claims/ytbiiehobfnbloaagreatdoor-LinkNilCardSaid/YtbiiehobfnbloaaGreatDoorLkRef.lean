/- link: the law's own functions, and the document's answer. -/
import Derived.Test.YtbiiehobfnbloaaGreatDoorLkPass
namespace Go.Proofs.YtbiiehobfnbloaaGreatDoor.LkRef
open Go.RowKit Go.Proofs.YtbiiehobfnbloaaGreatDoor.Q Go.Proofs.YtbiiehobfnbloaaGreatDoor.Mem Go.Proofs.YtbiiehobfnbloaaGreatDoor.PkCut Go.Proofs.YtbiiehobfnbloaaGreatDoor.LkHarm Go.Proofs.YtbiiehobfnbloaaGreatDoor.LkPass

/-- a slice of strings -/
def Strs (w : World) (a : Option Addr) (A : List ByteArray) : Prop := ∀ i x, A[i]? = some x → ∃ b o, a = some ⟨b, o, none⟩ ∧ b < w.heap.size ∧ w.cell? ⟨b, o + i, none⟩ = some (.string x)
theorem Strs.below {w w' : World} {a : Option Addr} {A : List ByteArray} {B : Nat} (h : Strs w a A) (hB : w.heap.size ≤ B) (hb : Below B w w') : Strs w' a A := fun i x hi => by
  obtain ⟨b, o, e, hlt, hc⟩ := h i x hi
  exact ⟨b, o, e, by have := hb.size; omega, (hb.cell (p := ⟨b, _, none⟩) (by show b < B; omega)).trans hc⟩
theorem strs_own {w : World} {B n : Nat} {a : Option Addr} {c : Nat} {A : List ByteArray} (h : w.ownsRow B 9 1 (.slice a n c) n (A.map .string)) : Strs w a A := fun i x hi => by
  have hl : A.length = n := by have := h.1; simpa using this
  have hil : i < A.length := (List.getElem?_eq_some_iff.1 hi).1
  rcases h.2 with ⟨_, e⟩ | ⟨g, cap, cur, e, _⟩
  · omega
  · simp only [Value.slice.injEq] at e
    obtain ⟨rfl, _, rfl⟩ := e
    refine ⟨g, 0, rfl, (h.lt g rfl).2, ?_⟩
    rw [Nat.zero_add, row_at h (by omega), hi]
    rfl

set_option maxRecDepth 100000 in
set_option maxHeartbeats 1000000 in
theorem texts_same (a b : Option Addr) (c d : Nat) (A : List ByteArray) (w : World) (hl : A.length ≤ 1099511627776) (hA : Strs w a A) (hB : Strs w b A) :
    Calls Tryz.prog 35 #[.slice a A.length c, .slice b A.length d] w fun e w' => e = .returned (.bool true) ∧ Below w.heap.size w w' := by
  have HA := Lib.hid hA
  have HB := Lib.hid hB
  clear hA hB
  go_enter Tryz.func35, Tryz.ntmps35
  go_wp2_with fail
  go_loopw [5] (fun i wr => ∃ k : Nat, k ≤ A.length ∧ i = .int .i64 k ∧ Below w.heap.size w wr) (fun i _ => A.length - (intOf i).toNat)
  case atStart => exact ⟨0, by omega, rfl, Below.refl _ _⟩
  case round =>
    obtain ⟨k, hk, rfl, hb⟩ := hrel
    by_cases hkl : k < A.length
    · have t0 : decide (k < A.length) = true := by simpa using hkl
      obtain ⟨x, hx⟩ : ∃ x, A[k]? = some x := ⟨A[k], List.getElem?_eq_getElem hkl⟩
      obtain ⟨b1, o1, rfl, l1, c1⟩ := HA.out.below (Nat.le_refl _) hb k x hx
      obtain ⟨b2, o2, rfl, l2, c2⟩ := HB.out.below (Nat.le_refl _) hb k x hx
      have y1 := fun p => cell_ext l1 c1 p
      have y2 := fun p => cell_ext l2 c2 p
      clear hx
      go_wp2_with fail
      refine Go.Proofs.YtbiiehobfnbloaaGreatDoor.Q.region_ext (by kernel_rfl) (by kernel_rfl) ?_
      repeat (go_big_quiet_step (fail))
      refine wpQuiet_nil ?_
      rintro w9 ⟨pq, rfl⟩
      have hb2 := hb.trans ((below_ext wr pq).mono hb.size)
      clear hb y1 y2 c1 c2
      go_wp2_with fail
      go_roundw
      case rel => exact ⟨k + 1, by omega, by go_num, hb2⟩
      case measure => simp [intOf]; omega
    · obtain rfl : k = A.length := by omega
      have t0 : decide (A.length < A.length) = false := by simp
      go_wp2_with fail
      go_ret
      exact ⟨rfl, hb⟩

section
variable {A : List ByteArray} {h : H} {k : Nat}
theorem el_out (hn : ¬ (0 ≤ h.s ∧ h.s < A.length)) : harm1 A h = A := by unfold harm1; rw [if_neg hn]
theorem el1 (hd : h.d = 1) (hk : k < A.length) : (harm1 A h)[k]? = if (k : Int) = h.s then some ByteArray.empty else A[k]? := by
  by_cases hn : 0 ≤ h.s ∧ h.s < A.length
  · rw [harm1_1 (j := h.s.toNat) (by omega) rfl (by omega) hd, List.getElem?_set]
    by_cases e : h.s.toNat = k
    · rw [if_pos e, if_pos (by omega), if_pos (by omega)]
    · rw [if_neg e, if_neg (by omega)]
  · rw [el_out hn, if_neg (by omega)]
theorem el2 (hd : h.d = 2) (hk : k < A.length) : (harm1 A h)[k]? = if (k : Int) = h.s ∧ 0 ≤ h.a ∧ h.a < (A[k]?.getD ByteArray.empty).size then some (turnB (A[k]?.getD ByteArray.empty) h.a.toNat h.b) else A[k]? := by
  by_cases hn : 0 ≤ h.s ∧ h.s < A.length
  · rw [harm1_2 (j := h.s.toNat) (by omega) rfl (by omega) hd]
    by_cases e : (k : Int) = h.s
    · have e' : h.s.toNat = k := by omega
      rw [e']
      by_cases hc : 0 ≤ h.a ∧ h.a < (A[k]?.getD ByteArray.empty).size
      · rw [if_pos hc, if_pos ⟨e, hc⟩, List.getElem?_set, if_pos rfl, if_pos hk]
      · rw [if_neg hc, if_neg (fun x => hc x.2)]
    · symm
      rw [if_neg (fun x => e x.1)]
      split
      · rw [List.getElem?_set, if_neg (by omega)]
      · rfl
  · rw [el_out hn, if_neg (by omega)]
theorem el3 (hd : h.d = 3) (hk : k < A.length) : (harm1 A h)[k]? = if (k : Int) = h.s ∧ 0 < k then A[k - 1]? else A[k]? := by
  by_cases hn : 0 ≤ h.s ∧ h.s < A.length
  · rw [harm1_3 (j := h.s.toNat) (by omega) rfl (by omega) hd]
    by_cases e : (k : Int) = h.s
    · have e' : h.s.toNat = k := by omega
      rw [e']
      by_cases hc : 0 < k
      · rw [if_pos hc, if_pos ⟨e, hc⟩, List.getElem?_set, if_pos rfl, if_pos hk, List.getElem?_eq_getElem (show k - 1 < A.length by omega)]
        rfl
      · rw [if_neg hc, if_neg (fun x => hc x.2)]
    · symm
      rw [if_neg (fun x => e x.1)]
      split
      · rw [List.getElem?_set, if_neg (by omega)]
      · rfl
  · rw [el_out hn, if_neg (by omega)]
theorem el4 (hd : h.d = 4) (hk : k < A.length) : (harm1 A h)[k]? = if 0 ≤ h.s ∧ (k : Int) = h.s ∧ k + 1 < A.length then A[k + 1]? else if 0 ≤ h.s ∧ (k : Int) - 1 = h.s then A[k - 1]? else A[k]? := by
  by_cases hn : 0 ≤ h.s ∧ h.s < A.length
  · rw [harm1_4 (j := h.s.toNat) (by omega) rfl (by omega) hd]
    by_cases hl : h.s.toNat + 1 < A.length
    · rw [if_pos hl, List.getElem?_set]
      by_cases e1 : h.s.toNat + 1 = k
      · rw [if_pos e1, if_pos (by simpa using hl), if_neg (by omega), if_pos (by omega), List.getElem?_eq_getElem (show h.s.toNat < A.length by omega), List.getElem?_eq_getElem (show k - 1 < A.length by omega)]
        have : k - 1 = h.s.toNat := by omega
        simp [this]
      · rw [if_neg e1, List.getElem?_set]
        by_cases e2 : h.s.toNat = k
        · rw [if_pos e2, if_pos (by omega), if_pos (by omega), ← e2, List.getElem?_eq_getElem hl]
          rfl
        · rw [if_neg e2, if_neg (by omega), if_neg (by omega)]
    · rw [if_neg hl, if_neg (by omega), if_neg (by omega)]
  · rw [el_out hn, if_neg (by omega), if_neg (by omega)]
end


end Go.Proofs.YtbiiehobfnbloaaGreatDoor.LkRef
