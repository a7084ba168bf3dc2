/- link: the law's own functions, and the document's answer. -/
import Derived.Test.YtnoioklkpeoopaaLkPass
namespace Go.Proofs.Ytnoioklkpeoopaa.LkRef
open Go.RowKit Go.Proofs.Ytnoioklkpeoopaa.Q Go.Proofs.Ytnoioklkpeoopaa.Mem Go.Proofs.Ytnoioklkpeoopaa.PkCut Go.Proofs.Ytnoioklkpeoopaa.LkHarm Go.Proofs.Ytnoioklkpeoopaa.LkPass

/-- a slice of strings -/
def Strs (w : World) (a : Option Addr) (A : List ByteArray) : Prop := ∀ i x, A[i]? = some x → ∃ b o, a = some ⟨b, o, none⟩ ∧ b < w.heap.size ∧ w.cell? ⟨b, o + i, none⟩ = some (.string x)
theorem Strs.below {w w' : World} {a : Option Addr} {A : List ByteArray} {B : Nat} (h : Strs w a A) (hB : w.heap.size ≤ B) (hb : Below B w w') : Strs w' a A := fun i x hi => by
  obtain ⟨b, o, e, hlt, hc⟩ := h i x hi
  exact ⟨b, o, e, by have := hb.size; omega, (hb.cell (p := ⟨b, _, none⟩) (by show b < B; omega)).trans hc⟩
theorem strs_own {w : World} {B n : Nat} {a : Option Addr} {c : Nat} {A : List ByteArray} (h : w.ownsRow B 9 1 (.slice a n c) n (A.map .string)) : Strs w a A := fun i x hi => by
  have hl : A.length = n := by have := h.1; simpa using this
  have hil : i < A.length := (List.getElem?_eq_some_iff.1 hi).1
  rcases h.2 with ⟨_, e⟩ | ⟨g, cap, cur, e, _⟩
  · omega
  · simp only [Value.slice.injEq] at e
    obtain ⟨rfl, _, rfl⟩ := e
    refine ⟨g, 0, rfl, (h.lt g rfl).2, ?_⟩
    rw [Nat.zero_add, row_at h (by omega), hi]
    rfl

set_option maxRecDepth 100000 in
set_option maxHeartbeats 1000000 in
theorem texts_same (a b : Option Addr) (c d : Nat) (A : List ByteArray) (w : World) (hl : A.length ≤ 1099511627776) (hA : Strs w a A) (hB : Strs w b A) :
    Calls Try.prog 9 #[.slice a A.length c, .slice b A.length d] w fun e w' => e = .returned (.bool true) ∧ Below w.heap.size w w' := by
  have HA := Lib.hid hA
  have HB := Lib.hid hB
  clear hA hB
  go_enter Try.func9, Try.ntmps9
  go_wp2_with fail
  go_loopw [5] (fun i wr => ∃ k : Nat, k ≤ A.length ∧ i = .int .i64 k ∧ Below w.heap.size w wr) (fun i _ => A.length - (intOf i).toNat)
  case atStart => exact ⟨0, by omega, rfl, Below.refl _ _⟩
  case round =>
    obtain ⟨k, hk, rfl, hb⟩ := hrel
    by_cases hkl : k < A.length
    · have t0 : decide (k < A.length) = true := by simpa using hkl
      obtain ⟨x, hx⟩ : ∃ x, A[k]? = some x := ⟨A[k], List.getElem?_eq_getElem hkl⟩
      obtain ⟨b1, o1, rfl, l1, c1⟩ := HA.out.below (Nat.le_refl _) hb k x hx
      obtain ⟨b2, o2, rfl, l2, c2⟩ := HB.out.below (Nat.le_refl _) hb k x hx
      have y1 := fun p => cell_ext l1 c1 p
      have y2 := fun p => cell_ext l2 c2 p
      clear hx
      go_wp2_with fail
      refine Go.Proofs.Ytnoioklkpeoopaa.Q.region_ext (by kernel_rfl) (by kernel_rfl) ?_
      repeat (go_big_quiet_step (fail))
      refine wpQuiet_nil ?_
      rintro w9 ⟨pq, rfl⟩
      have hb2 := hb.trans ((below_ext wr pq).mono hb.size)
      clear hb y1 y2 c1 c2
      go_wp2_with fail
      go_roundw
      case rel => exact ⟨k + 1, by omega, by go_num, hb2⟩
      case measure => simp [intOf]; omega
    · obtain rfl : k = A.length := by omega
      have t0 : decide (A.length < A.length) = false := by simp
      go_wp2_with fail
      go_ret
      exact ⟨rfl, hb⟩

section
variable {A : List ByteArray} {h : H} {k : Nat}
theorem el_out (hn : ¬ (0 ≤ h.s ∧ h.s < A.length)) : harm1 A h = A := by unfold harm1; rw [if_neg hn]
theorem el1 (hd : h.d = 1) (hk : k < A.length) : (harm1 A h)[k]? = if (k : Int) = h.s then some ByteArray.empty else A[k]? := by
  by_cases hn : 0 ≤ h.s ∧ h.s < A.length
  · rw [harm1_1 (j := h.s.toNat) (by omega) rfl (by omega) hd, List.getElem?_set]
    by_cases e : h.s.toNat = k
    · rw [if_pos e, if_pos (by omega), if_pos (by omega)]
    · rw [if_neg e, if_neg (by omega)]
  · rw [el_out hn, if_neg (by omega)]
theorem el2 (hd : h.d = 2) (hk : k < A.length) : (harm1 A h)[k]? = if (k : Int) = h.s ∧ 0 ≤ h.a ∧ h.a < (A[k]?.getD ByteArray.empty).size then some (turnB (A[k]?.getD ByteArray.empty) h.a.toNat h.b) else A[k]? := by
  by_cases hn : 0 ≤ h.s ∧ h.s < A.length
  · rw [harm1_2 (j := h.s.toNat) (by omega) rfl (by omega) hd]
    by_cases e : (k : Int) = h.s
    · have e' : h.s.toNat = k := by omega
      rw [e']
      by_cases hc : 0 ≤ h.a ∧ h.a < (A[k]?.getD ByteArray.empty).size
      · rw [if_pos hc, if_pos ⟨e, hc⟩, List.getElem?_set, if_pos rfl, if_pos hk]
      · rw [if_neg hc, if_neg (fun x => hc x.2)]
    · symm
      rw [if_neg (fun x => e x.1)]
      split
      · rw [List.getElem?_set, if_neg (by omega)]
      · rfl
  · rw [el_out hn, if_neg (by omega)]
theorem el3 (hd : h.d = 3) (hk : k < A.length) : (harm1 A h)[k]? = if (k : Int) = h.s ∧ 0 < k then A[k - 1]? else A[k]? := by
  by_cases hn : 0 ≤ h.s ∧ h.s < A.length
  · rw [harm1_3 (j := h.s.toNat) (by omega) rfl (by omega) hd]
    by_cases e : (k : Int) = h.s
    · have e' : h.s.toNat = k := by omega
      rw [e']
      by_cases hc : 0 < k
      · rw [if_pos hc, if_pos ⟨e, hc⟩, List.getElem?_set, if_pos rfl, if_pos hk, List.getElem?_eq_getElem (show k - 1 < A.length by omega)]
        rfl
      · rw [if_neg hc, if_neg (fun x => hc x.2)]
    · symm
      rw [if_neg (fun x => e x.1)]
      split
      · rw [List.getElem?_set, if_neg (by omega)]
      · rfl
  · rw [el_out hn, if_neg (by omega)]
theorem el4 (hd : h.d = 4) (hk : k < A.length) : (harm1 A h)[k]? = if 0 ≤ h.s ∧ (k : Int) = h.s ∧ k + 1 < A.length then A[k + 1]? else if 0 ≤ h.s ∧ (k : Int) - 1 = h.s then A[k - 1]? else A[k]? := by
  by_cases hn : 0 ≤ h.s ∧ h.s < A.length
  · rw [harm1_4 (j := h.s.toNat) (by omega) rfl (by omega) hd]
    by_cases hl : h.s.toNat + 1 < A.length
    · rw [if_pos hl, List.getElem?_set]
      by_cases e1 : h.s.toNat + 1 = k
      · rw [if_pos e1, if_pos (by simpa using hl), if_neg (by omega), if_pos (by omega), List.getElem?_eq_getElem (show h.s.toNat < A.length by omega), List.getElem?_eq_getElem (show k - 1 < A.length by omega)]
        have : k - 1 = h.s.toNat := by omega
        simp [this]
      · rw [if_neg e1, List.getElem?_set]
        by_cases e2 : h.s.toNat = k
        · rw [if_pos e2, if_pos (by omega), if_pos (by omega), ← e2, List.getElem?_eq_getElem hl]
          rfl
        · rw [if_neg e2, if_neg (by omega), if_neg (by omega)]
    · rw [if_neg hl, if_neg (by omega), if_neg (by omega)]
  · rw [el_out hn, if_neg (by omega), if_neg (by omega)]
end


set_option maxRecDepth 100000 in
set_option maxHeartbeats 1000000 in
theorem one_1 (a : Option Addr) (c : Nat) (A : List ByteArray) (h : H) (w : World) (hl : A.length ≤ 1099511627776) (hA : Strs w a A) (hd : h.d = 1) :
        Calls Try.prog 12 #[.slice a A.length c, .agg #[.int .i64 1, .int .i64 h.s, .int .i64 h.a, .int .u8 h.b]] w fun e w' => ∃ a' c', e = .returned (.slice a' A.length c') ∧ w'.ownsRow (w.heap.size + 1) 9 1 (.slice a' A.length c') A.length ((harm1 A h).map .string) ∧ Below w.heap.size w w' := by
  obtain ⟨i0, hi, hz0, hz1, hz2⟩ := info_parts infoS
  have HA := Lib.hid hA
  have HD := Lib.hid hd
  clear hA hd
  go_enter Try.func12, Try.ntmps12
  go_wp2_with fail
  go_loopw [5, 6] (fun o i wr => ∃ k : Nat, k ≤ A.length ∧ i = .int .i64 k ∧ wr.ownsRow (w.heap.size + 1) 9 1 o k (((harm1 A h).take k).map .string) ∧ Blk wr w.heap.size 44 #[.int .i64 1, .int .i64 h.s, .int .i64 h.a, .int .u8 h.b] ∧ Below w.heap.size w wr) (fun _ i _ => A.length - (intOf i).toNat)
  case atStart => exact ⟨0, by omega, rfl, World.ownsRow_nil _ _ _ _, Blk.new _ _ _, (Below.refl _ _).alloc (Nat.le_refl _) _⟩
  case round =>
    obtain ⟨k, hk, rfl, hown, hbox, hb⟩ := hrel
    by_cases hkl : k < A.length
    · have t0 : decide (k < A.length) = true := by simpa using hkl
      obtain ⟨x, hx⟩ : ∃ x, A[k]? = some x := ⟨A[k], List.getElem?_eq_getElem hkl⟩
      obtain ⟨b1, o1, rfl, l1, c1⟩ := HA.out.below (Nat.le_refl _) hb k x hx
      have d0 := Blk.cell hbox 0 (v := .int .i64 1) rfl
      have d1 := Blk.cell hbox 1 (v := .int .i64 h.s) rfl
      have d2 := Blk.cell hbox 2 (v := .int .i64 h.a) rfl
      have d3 := Blk.cell hbox 3 (v := .int .u8 h.b) rfl
      have HX := Lib.hid hx
      clear hx
      by_cases hs : (k : Int) = h.s
      · have t1 : ((k : Int) == h.s) = true := by simpa using hs
        have hX := (el1 HD.out hkl).trans (if_pos hs)
        clear hs
        have hRk : (harm1 A h)[k]? = some ({ data := #[] }) := hX
        have HRk := Lib.hid hRk
        clear hRk
        go_wp2_with (first | (at_builtin; refine wpList_append_own _ rfl _ _ 24 rfl (w.heap.size + 1) 9 i0 (.string ByteArray.empty) 1 16 Try.underlying24 hi hz0 hz1 hz2 rfl (by decide) _ _ _ rfl (hown.alloc _) ⟨wr.heap.size, 0, none⟩ 1 1 [.string ({ data := #[] })] rfl rfl (cell_one_new _ _ _) ?c1 ?c2 ?c3 ?c4 ?_) | fail)
        case c1 => simp [Value.oneCell']
        case c2 => unfold maxLen; omega
        case c3 => omega
        case c4 => have := Blk.lt hbox; simp; omega
        intro v' w1 hown' hgrow _
        have hown2 : w1.ownsRow (w.heap.size + 1) 9 1 v' (k + 1) (((harm1 A h).take (k + 1)).map .string) := by
          rw [List.take_add_one, HRk.out]
          simpa using hown'
        have hgr := hown.lt
        have hbox2 := Blk.grown (hbox.alloc _) hgrow (fun e => by have := (hgr _ e.symm).1; omega)
        have hb2 := (hb.alloc hb.size _).grown hgrow (by have := hb.size; simp; omega) (fun r e => by have := (hgr r e).1; omega)
        clear hown hown' hgrow hb hgr
        go_wp2_with fail
        go_roundw
        case rel => exact ⟨k + 1, by omega, by go_num, hown2, hbox2, hb2⟩
        case measure => simp [intOf]; omega
      · have t1 : ((k : Int) == h.s) = false := by simpa using hs
        have hX := ((el1 HD.out hkl).trans (if_neg hs)).trans HX.out
        clear hs
        have hRk : (harm1 A h)[k]? = some (x) := hX
        have HRk := Lib.hid hRk
        clear hRk
        go_wp2_with (first | (at_builtin; refine wpList_append_own _ rfl _ _ 24 rfl (w.heap.size + 1) 9 i0 (.string ByteArray.empty) 1 16 Try.underlying24 hi hz0 hz1 hz2 rfl (by decide) _ _ _ rfl (hown.alloc _) ⟨wr.heap.size, 0, none⟩ 1 1 [.string (x)] rfl rfl (cell_one_new _ _ _) ?c1 ?c2 ?c3 ?c4 ?_) | fail)
        case c1 => simp [Value.oneCell']
        case c2 => unfold maxLen; omega
        case c3 => omega
        case c4 => have := Blk.lt hbox; simp; omega
        intro v' w1 hown' hgrow _
        have hown2 : w1.ownsRow (w.heap.size + 1) 9 1 v' (k + 1) (((harm1 A h).take (k + 1)).map .string) := by
          rw [List.take_add_one, HRk.out]
          simpa using hown'
        have hgr := hown.lt
        have hbox2 := Blk.grown (hbox.alloc _) hgrow (fun e => by have := (hgr _ e.symm).1; omega)
        have hb2 := (hb.alloc hb.size _).grown hgrow (by have := hb.size; simp; omega) (fun r e => by have := (hgr r e).1; omega)
        clear hown hown' hgrow hb hgr
        go_wp2_with fail
        go_roundw
        case rel => exact ⟨k + 1, by omega, by go_num, hown2, hbox2, hb2⟩
        case measure => simp [intOf]; omega
    · obtain rfl : k = A.length := by omega
      have t0 : decide (A.length < A.length) = false := by simp
      rw [List.take_of_length_le (by rw [harm1_length]; exact Nat.le_refl _)] at hown
      obtain ⟨_, a', c', rfl, _⟩ := own_form hown
      go_wp2_with fail
      go_ret
      exact ⟨a', c', rfl, hown, hb⟩


set_option maxRecDepth 100000 in
set_option maxHeartbeats 1000000 in
theorem one_3 (a : Option Addr) (c : Nat) (A : List ByteArray) (h : H) (w : World) (hl : A.length ≤ 1099511627776) (hA : Strs w a A) (hd : h.d = 3) :
        Calls Try.prog 12 #[.slice a A.length c, .agg #[.int .i64 3, .int .i64 h.s, .int .i64 h.a, .int .u8 h.b]] w fun e w' => ∃ a' c', e = .returned (.slice a' A.length c') ∧ w'.ownsRow (w.heap.size + 1) 9 1 (.slice a' A.length c') A.length ((harm1 A h).map .string) ∧ Below w.heap.size w w' := by
  obtain ⟨i0, hi, hz0, hz1, hz2⟩ := info_parts infoS
  have HA := Lib.hid hA
  have HD := Lib.hid hd
  clear hA hd
  go_enter Try.func12, Try.ntmps12
  go_wp2_with fail
  go_loopw [5, 6] (fun o i wr => ∃ k : Nat, k ≤ A.length ∧ i = .int .i64 k ∧ wr.ownsRow (w.heap.size + 1) 9 1 o k (((harm1 A h).take k).map .string) ∧ Blk wr w.heap.size 44 #[.int .i64 3, .int .i64 h.s, .int .i64 h.a, .int .u8 h.b] ∧ Below w.heap.size w wr) (fun _ i _ => A.length - (intOf i).toNat)
  case atStart => exact ⟨0, by omega, rfl, World.ownsRow_nil _ _ _ _, Blk.new _ _ _, (Below.refl _ _).alloc (Nat.le_refl _) _⟩
  case round =>
    obtain ⟨k, hk, rfl, hown, hbox, hb⟩ := hrel
    by_cases hkl : k < A.length
    · have t0 : decide (k < A.length) = true := by simpa using hkl
      obtain ⟨x, hx⟩ : ∃ x, A[k]? = some x := ⟨A[k], List.getElem?_eq_getElem hkl⟩
      obtain ⟨b1, o1, rfl, l1, c1⟩ := HA.out.below (Nat.le_refl _) hb k x hx
      have d0 := Blk.cell hbox 0 (v := .int .i64 3) rfl
      have d1 := Blk.cell hbox 1 (v := .int .i64 h.s) rfl
      have d2 := Blk.cell hbox 2 (v := .int .i64 h.a) rfl
      have d3 := Blk.cell hbox 3 (v := .int .u8 h.b) rfl
      have HX := Lib.hid hx
      clear hx
      by_cases hs : (k : Int) = h.s
      · have t1 : ((k : Int) == h.s) = true := by simpa using hs
        by_cases hk0 : 0 < k
        · have t2 : decide (0 < k) = true := by simpa using hk0
          obtain ⟨y, hy⟩ : ∃ y, A[k - 1]? = some y := ⟨A[k - 1], List.getElem?_eq_getElem (by omega)⟩
          obtain ⟨_, _, e2, _, c2⟩ := HA.out.below (Nat.le_refl _) hb (k - 1) y hy
          cases e2
          have HY := Lib.hid hy
          clear hy
          have hX := ((el3 HD.out hkl).trans (if_pos ⟨hs, hk0⟩)).trans HY.out
          clear hs
          have hRk : (harm1 A h)[k]? = some (y) := hX
          have HRk := Lib.hid hRk
          clear hRk
          go_wp2_with (first | (at_builtin; refine wpList_append_own _ rfl _ _ 24 rfl (w.heap.size + 1) 9 i0 (.string ByteArray.empty) 1 16 Try.underlying24 hi hz0 hz1 hz2 rfl (by decide) _ _ _ rfl (hown.alloc _) ⟨wr.heap.size, 0, none⟩ 1 1 [.string (y)] rfl rfl (cell_one_new _ _ _) ?c1 ?c2 ?c3 ?c4 ?_) | fail)
          case c1 => simp [Value.oneCell']
          case c2 => unfold maxLen; omega
          case c3 => omega
          case c4 => have := Blk.lt hbox; simp; omega
          intro v' w1 hown' hgrow _
          have hown2 : w1.ownsRow (w.heap.size + 1) 9 1 v' (k + 1) (((harm1 A h).take (k + 1)).map .string) := by
            rw [List.take_add_one, HRk.out]
            simpa using hown'
          have hgr := hown.lt
          have hbox2 := Blk.grown (hbox.alloc _) hgrow (fun e => by have := (hgr _ e.symm).1; omega)
          have hb2 := (hb.alloc hb.size _).grown hgrow (by have := hb.size; simp; omega) (fun r e => by have := (hgr r e).1; omega)
          clear hown hown' hgrow hb hgr
          go_wp2_with fail
          go_roundw
          case rel => exact ⟨k + 1, by omega, by go_num, hown2, hbox2, hb2⟩
          case measure => simp [intOf]; omega
        · have t2 : decide (0 < k) = false := by simpa using hk0
          have hX := ((el3 HD.out hkl).trans (if_neg (fun e => hk0 e.2))).trans HX.out
          clear hs
          have hRk : (harm1 A h)[k]? = some (x) := hX
          have HRk := Lib.hid hRk
          clear hRk
          go_wp2_with (first | (at_builtin; refine wpList_append_own _ rfl _ _ 24 rfl (w.heap.size + 1) 9 i0 (.string ByteArray.empty) 1 16 Try.underlying24 hi hz0 hz1 hz2 rfl (by decide) _ _ _ rfl (hown.alloc _) ⟨wr.heap.size, 0, none⟩ 1 1 [.string (x)] rfl rfl (cell_one_new _ _ _) ?c1 ?c2 ?c3 ?c4 ?_) | fail)
          case c1 => simp [Value.oneCell']
          case c2 => unfold maxLen; omega
          case c3 => omega
          case c4 => have := Blk.lt hbox; simp; omega
          intro v' w1 hown' hgrow _
          have hown2 : w1.ownsRow (w.heap.size + 1) 9 1 v' (k + 1) (((harm1 A h).take (k + 1)).map .string) := by
            rw [List.take_add_one, HRk.out]
            simpa using hown'
          have hgr := hown.lt
          have hbox2 := Blk.grown (hbox.alloc _) hgrow (fun e => by have := (hgr _ e.symm).1; omega)
          have hb2 := (hb.alloc hb.size _).grown hgrow (by have := hb.size; simp; omega) (fun r e => by have := (hgr r e).1; omega)
          clear hown hown' hgrow hb hgr
          go_wp2_with fail
          go_roundw
          case rel => exact ⟨k + 1, by omega, by go_num, hown2, hbox2, hb2⟩
          case measure => simp [intOf]; omega
      · have t1 : ((k : Int) == h.s) = false := by simpa using hs
        have hX := ((el3 HD.out hkl).trans (if_neg (fun e => hs e.1))).trans HX.out
        clear hs
        have hRk : (harm1 A h)[k]? = some (x) := hX
        have HRk := Lib.hid hRk
        clear hRk
        go_wp2_with (first | (at_builtin; refine wpList_append_own _ rfl _ _ 24 rfl (w.heap.size + 1) 9 i0 (.string ByteArray.empty) 1 16 Try.underlying24 hi hz0 hz1 hz2 rfl (by decide) _ _ _ rfl (hown.alloc _) ⟨wr.heap.size, 0, none⟩ 1 1 [.string (x)] rfl rfl (cell_one_new _ _ _) ?c1 ?c2 ?c3 ?c4 ?_) | fail)
        case c1 => simp [Value.oneCell']
        case c2 => unfold maxLen; omega
        case c3 => omega
        case c4 => have := Blk.lt hbox; simp; omega
        intro v' w1 hown' hgrow _
        have hown2 : w1.ownsRow (w.heap.size + 1) 9 1 v' (k + 1) (((harm1 A h).take (k + 1)).map .string) := by
          rw [List.take_add_one, HRk.out]
          simpa using hown'
        have hgr := hown.lt
        have hbox2 := Blk.grown (hbox.alloc _) hgrow (fun e => by have := (hgr _ e.symm).1; omega)
        have hb2 := (hb.alloc hb.size _).grown hgrow (by have := hb.size; simp; omega) (fun r e => by have := (hgr r e).1; omega)
        clear hown hown' hgrow hb hgr
        go_wp2_with fail
        go_roundw
        case rel => exact ⟨k + 1, by omega, by go_num, hown2, hbox2, hb2⟩
        case measure => simp [intOf]; omega
    · obtain rfl : k = A.length := by omega
      have t0 : decide (A.length < A.length) = false := by simp
      rw [List.take_of_length_le (by rw [harm1_length]; exact Nat.le_refl _)] at hown
      obtain ⟨_, a', c', rfl, _⟩ := own_form hown
      go_wp2_with fail
      go_ret
      exact ⟨a', c', rfl, hown, hb⟩

set_option maxRecDepth 100000 in
set_option maxHeartbeats 1000000 in
theorem one_4 (a : Option Addr) (c : Nat) (A : List ByteArray) (h : H) (w : World) (hl : A.length ≤ 1099511627776) (hA : Strs w a A) (hd : h.d = 4) :
        Calls Try.prog 12 #[.slice a A.length c, .agg #[.int .i64 4, .int .i64 h.s, .int .i64 h.a, .int .u8 h.b]] w fun e w' => ∃ a' c', e = .returned (.slice a' A.length c') ∧ w'.ownsRow (w.heap.size + 1) 9 1 (.slice a' A.length c') A.length ((harm1 A h).map .string) ∧ Below w.heap.size w w' := by
  obtain ⟨i0, hi, hz0, hz1, hz2⟩ := info_parts infoS
  have HA := Lib.hid hA
  have HD := Lib.hid hd
  clear hA hd
  go_enter Try.func12, Try.ntmps12
  go_wp2_with fail
  go_loopw [5, 6] (fun o i wr => ∃ k : Nat, k ≤ A.length ∧ i = .int .i64 k ∧ wr.ownsRow (w.heap.size + 1) 9 1 o k (((harm1 A h).take k).map .string) ∧ Blk wr w.heap.size 44 #[.int .i64 4, .int .i64 h.s, .int .i64 h.a, .int .u8 h.b] ∧ Below w.heap.size w wr) (fun _ i _ => A.length - (intOf i).toNat)
  case atStart => exact ⟨0, by omega, rfl, World.ownsRow_nil _ _ _ _, Blk.new _ _ _, (Below.refl _ _).alloc (Nat.le_refl _) _⟩
  case round =>
    obtain ⟨k, hk, rfl, hown, hbox, hb⟩ := hrel
    by_cases hkl : k < A.length
    · have t0 : decide (k < A.length) = true := by simpa using hkl
      obtain ⟨x, hx⟩ : ∃ x, A[k]? = some x := ⟨A[k], List.getElem?_eq_getElem hkl⟩
      obtain ⟨b1, o1, rfl, l1, c1⟩ := HA.out.below (Nat.le_refl _) hb k x hx
      have d0 := Blk.cell hbox 0 (v := .int .i64 4) rfl
      have d1 := Blk.cell hbox 1 (v := .int .i64 h.s) rfl
      have d2 := Blk.cell hbox 2 (v := .int .i64 h.a) rfl
      have d3 := Blk.cell hbox 3 (v := .int .u8 h.b) rfl
      have HX := Lib.hid hx
      clear hx
      by_cases h0 : 0 ≤ h.s
      · have t1 : decide (0 ≤ h.s) = true := by simpa using h0
        by_cases hs : (k : Int) = h.s
        · have t2 : ((k : Int) == h.s) = true := by simpa using hs
          have t3 : ((k : Int) - 1 == h.s) = false := by simp; omega
          by_cases hk1 : k + 1 < A.length
          · have t4 : decide (k + 1 < A.length) = true := by simpa using hk1
            obtain ⟨y, hy⟩ : ∃ y, A[k + 1]? = some y := ⟨A[k + 1], List.getElem?_eq_getElem (by omega)⟩
            obtain ⟨_, _, e2, _, c2⟩ := HA.out.below (Nat.le_refl _) hb (k + 1) y hy
            cases e2
            have HY := Lib.hid hy
            clear hy
            have hX := ((el4 HD.out hkl).trans (if_pos ⟨h0, hs, hk1⟩)).trans HY.out
            clear hs
            have hRk : (harm1 A h)[k]? = some (y) := hX
            have HRk := Lib.hid hRk
            clear hRk
            go_wp2_with (first | (at_builtin; refine wpList_append_own _ rfl _ _ 24 rfl (w.heap.size + 1) 9 i0 (.string ByteArray.empty) 1 16 Try.underlying24 hi hz0 hz1 hz2 rfl (by decide) _ _ _ rfl (hown.alloc _) ⟨wr.heap.size, 0, none⟩ 1 1 [.string (y)] rfl rfl (cell_one_new _ _ _) ?c1 ?c2 ?c3 ?c4 ?_) | fail)
            case c1 => simp [Value.oneCell']
            case c2 => unfold maxLen; omega
            case c3 => omega
            case c4 => have := Blk.lt hbox; simp; omega
            intro v' w1 hown' hgrow _
            have hown2 : w1.ownsRow (w.heap.size + 1) 9 1 v' (k + 1) (((harm1 A h).take (k + 1)).map .string) := by
              rw [List.take_add_one, HRk.out]
              simpa using hown'
            have hgr := hown.lt
            have hbox2 := Blk.grown (hbox.alloc _) hgrow (fun e => by have := (hgr _ e.symm).1; omega)
            have hb2 := (hb.alloc hb.size _).grown hgrow (by have := hb.size; simp; omega) (fun r e => by have := (hgr r e).1; omega)
            clear hown hown' hgrow hb hgr
            go_wp2_with fail
            go_roundw
            case rel => exact ⟨k + 1, by omega, by go_num, hown2, hbox2, hb2⟩
            case measure => simp [intOf]; omega
          · have t4 : decide (k + 1 < A.length) = false := by simpa using hk1
            have hX := (((el4 HD.out hkl).trans (if_neg (fun e => hk1 e.2.2))).trans (if_neg (by omega))).trans HX.out
            clear hs
            have hRk : (harm1 A h)[k]? = some (x) := hX
            have HRk := Lib.hid hRk
            clear hRk
            go_wp2_with (first | (at_builtin; refine wpList_append_own _ rfl _ _ 24 rfl (w.heap.size + 1) 9 i0 (.string ByteArray.empty) 1 16 Try.underlying24 hi hz0 hz1 hz2 rfl (by decide) _ _ _ rfl (hown.alloc _) ⟨wr.heap.size, 0, none⟩ 1 1 [.string (x)] rfl rfl (cell_one_new _ _ _) ?c1 ?c2 ?c3 ?c4 ?_) | fail)
            case c1 => simp [Value.oneCell']
            case c2 => unfold maxLen; omega
            case c3 => omega
            case c4 => have := Blk.lt hbox; simp; omega
            intro v' w1 hown' hgrow _
            have hown2 : w1.ownsRow (w.heap.size + 1) 9 1 v' (k + 1) (((harm1 A h).take (k + 1)).map .string) := by
              rw [List.take_add_one, HRk.out]
              simpa using hown'
            have hgr := hown.lt
            have hbox2 := Blk.grown (hbox.alloc _) hgrow (fun e => by have := (hgr _ e.symm).1; omega)
            have hb2 := (hb.alloc hb.size _).grown hgrow (by have := hb.size; simp; omega) (fun r e => by have := (hgr r e).1; omega)
            clear hown hown' hgrow hb hgr
            go_wp2_with fail
            go_roundw
            case rel => exact ⟨k + 1, by omega, by go_num, hown2, hbox2, hb2⟩
            case measure => simp [intOf]; omega
        · have t2 : ((k : Int) == h.s) = false := by simpa using hs
          by_cases hs1 : (k : Int) - 1 = h.s
          · have t3 : ((k : Int) - 1 == h.s) = true := by simpa using hs1
            have hk0 : 0 < k := by omega
            obtain ⟨y, hy⟩ : ∃ y, A[k - 1]? = some y := ⟨A[k - 1], List.getElem?_eq_getElem (by omega)⟩
            obtain ⟨_, _, e2, _, c2⟩ := HA.out.below (Nat.le_refl _) hb (k - 1) y hy
            cases e2
            have HY := Lib.hid hy
            clear hy
            have hX := (((el4 HD.out hkl).trans (if_neg (fun e => hs e.2.1))).trans (if_pos ⟨h0, hs1⟩)).trans HY.out
            clear hs hs1
            have hRk : (harm1 A h)[k]? = some (y) := hX
            have HRk := Lib.hid hRk
            clear hRk
            go_wp2_with (first | (at_builtin; refine wpList_append_own _ rfl _ _ 24 rfl (w.heap.size + 1) 9 i0 (.string ByteArray.empty) 1 16 Try.underlying24 hi hz0 hz1 hz2 rfl (by decide) _ _ _ rfl (hown.alloc _) ⟨wr.heap.size, 0, none⟩ 1 1 [.string (y)] rfl rfl (cell_one_new _ _ _) ?c1 ?c2 ?c3 ?c4 ?_) | fail)
            case c1 => simp [Value.oneCell']
            case c2 => unfold maxLen; omega
            case c3 => omega
            case c4 => have := Blk.lt hbox; simp; omega
            intro v' w1 hown' hgrow _
            have hown2 : w1.ownsRow (w.heap.size + 1) 9 1 v' (k + 1) (((harm1 A h).take (k + 1)).map .string) := by
              rw [List.take_add_one, HRk.out]
              simpa using hown'
            have hgr := hown.lt
            have hbox2 := Blk.grown (hbox.alloc _) hgrow (fun e => by have := (hgr _ e.symm).1; omega)
            have hb2 := (hb.alloc hb.size _).grown hgrow (by have := hb.size; simp; omega) (fun r e => by have := (hgr r e).1; omega)
            clear hown hown' hgrow hb hgr
            go_wp2_with fail
            go_roundw
            case rel => exact ⟨k + 1, by omega, by go_num, hown2, hbox2, hb2⟩
            case measure => simp [intOf]; omega
          · have t3 : ((k : Int) - 1 == h.s) = false := by simpa using hs1
            have hX := (((el4 HD.out hkl).trans (if_neg (fun e => hs e.2.1))).trans (if_neg (fun e => hs1 e.2))).trans HX.out
            clear hs hs1
            have hRk : (harm1 A h)[k]? = some (x) := hX
            have HRk := Lib.hid hRk
            clear hRk
            go_wp2_with (first | (at_builtin; refine wpList_append_own _ rfl _ _ 24 rfl (w.heap.size + 1) 9 i0 (.string ByteArray.empty) 1 16 Try.underlying24 hi hz0 hz1 hz2 rfl (by decide) _ _ _ rfl (hown.alloc _) ⟨wr.heap.size, 0, none⟩ 1 1 [.string (x)] rfl rfl (cell_one_new _ _ _) ?c1 ?c2 ?c3 ?c4 ?_) | fail)
            case c1 => simp [Value.oneCell']
            case c2 => unfold maxLen; omega
            case c3 => omega
            case c4 => have := Blk.lt hbox; simp; omega
            intro v' w1 hown' hgrow _
            have hown2 : w1.ownsRow (w.heap.size + 1) 9 1 v' (k + 1) (((harm1 A h).take (k + 1)).map .string) := by
              rw [List.take_add_one, HRk.out]
              simpa using hown'
            have hgr := hown.lt
            have hbox2 := Blk.grown (hbox.alloc _) hgrow (fun e => by have := (hgr _ e.symm).1; omega)
            have hb2 := (hb.alloc hb.size _).grown hgrow (by have := hb.size; simp; omega) (fun r e => by have := (hgr r e).1; omega)
            clear hown hown' hgrow hb hgr
            go_wp2_with fail
            go_roundw
            case rel => exact ⟨k + 1, by omega, by go_num, hown2, hbox2, hb2⟩
            case measure => simp [intOf]; omega
      · have t1 : decide (0 ≤ h.s) = false := by simpa using h0
        have hX := (((el4 HD.out hkl).trans (if_neg (fun e => h0 e.1))).trans (if_neg (fun e => h0 e.1))).trans HX.out
        have hRk : (harm1 A h)[k]? = some (x) := hX
        have HRk := Lib.hid hRk
        clear hRk
        go_wp2_with (first | (at_builtin; refine wpList_append_own _ rfl _ _ 24 rfl (w.heap.size + 1) 9 i0 (.string ByteArray.empty) 1 16 Try.underlying24 hi hz0 hz1 hz2 rfl (by decide) _ _ _ rfl (hown.alloc _) ⟨wr.heap.size, 0, none⟩ 1 1 [.string (x)] rfl rfl (cell_one_new _ _ _) ?c1 ?c2 ?c3 ?c4 ?_) | fail)
        case c1 => simp [Value.oneCell']
        case c2 => unfold maxLen; omega
        case c3 => omega
        case c4 => have := Blk.lt hbox; simp; omega
        intro v' w1 hown' hgrow _
        have hown2 : w1.ownsRow (w.heap.size + 1) 9 1 v' (k + 1) (((harm1 A h).take (k + 1)).map .string) := by
          rw [List.take_add_one, HRk.out]
          simpa using hown'
        have hgr := hown.lt
        have hbox2 := Blk.grown (hbox.alloc _) hgrow (fun e => by have := (hgr _ e.symm).1; omega)
        have hb2 := (hb.alloc hb.size _).grown hgrow (by have := hb.size; simp; omega) (fun r e => by have := (hgr r e).1; omega)
        clear hown hown' hgrow hb hgr
        go_wp2_with fail
        go_roundw
        case rel => exact ⟨k + 1, by omega, by go_num, hown2, hbox2, hb2⟩
        case measure => simp [intOf]; omega
    · obtain rfl : k = A.length := by omega
      have t0 : decide (A.length < A.length) = false := by simp
      rw [List.take_of_length_le (by rw [harm1_length]; exact Nat.le_refl _)] at hown
      obtain ⟨_, a', c', rfl, _⟩ := own_form hown
      go_wp2_with fail
      go_ret
      exact ⟨a', c', rfl, hown, hb⟩
end Go.Proofs.Ytnoioklkpeoopaa.LkRef
