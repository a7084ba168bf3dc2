/- link: the document's answer, a byte turned; all harms; its Pass. -/
import Derived.Test.YtnoioklkpeoopaaLkRef
import Derived.RegionTactic
import Derived.BigRegion
import Derived.Laws.BytesArg
namespace Go.Proofs.Ytnoioklkpeoopaa.LkRef2
open Go.RowKit Go.Proofs.Ytnoioklkpeoopaa.Q Go.Proofs.Ytnoioklkpeoopaa.Mem Go.Proofs.Ytnoioklkpeoopaa.PkCut Go.Proofs.Ytnoioklkpeoopaa.LkHarm Go.Proofs.Ytnoioklkpeoopaa.LkPass Go.Proofs.Ytnoioklkpeoopaa.LkRef

theorem cat_turn (x : ByteArray) (i : Nat) (b : Int) (hi : i < x.size) (hb : 0 ≤ b ∧ b < 256) :
    x.extract 0 i ++ strOfNums [bits .xor .u8 ((x[i]'hi).toNat : Int) b] ++ x.extract (i + 1) x.size = turnB x i b := by
  have hi' : i < x.data.size := hi
  have hxi : x[i]'hi = x.data[i] := rfl
  apply ByteArray.ext
  apply Array.toList_inj.1
  rw [xor_u8 _ _ hb]
  have hsz : x.size = x.data.toList.length := by rw [Array.length_toList]; rfl
  simp only [ByteArray.data_append, ByteArray.data_extract, Array.toList_append, Array.toList_extract, List.extract_eq_take_drop, strOfNums, turnB, Array.toList_setIfInBounds, List.map_cons, List.map_nil, Int.toNat_natCast, UInt8.ofNat_toNat, Nat.sub_zero, List.drop_zero]
  rw [List.set_eq_take_append_cons_drop, if_pos (by simpa using hi'), hxi, Array.getElem?_eq_getElem hi']
  simp
  exact List.take_of_length_le (by rw [List.length_drop, ← hsz]; exact Nat.le_refl _)

set_option maxRecDepth 100000 in
set_option maxHeartbeats 1000000 in
theorem one_2 (a : Option Addr) (c : Nat) (A : List ByteArray) (h : H) (w : World) (hl : A.length ≤ 1099511627776) (hA : Strs w a A) (hd : h.d = 2) (hb0 : 0 ≤ h.b ∧ h.b < 256) (hsz : ∀ x ∈ A, x.size ≤ 1099511627776) :
        Calls Try.prog 12 #[.slice a A.length c, .agg #[.int .i64 2, .int .i64 h.s, .int .i64 h.a, .int .u8 h.b]] w fun e w' => ∃ a' c', e = .returned (.slice a' A.length c') ∧ w'.ownsRow (w.heap.size + 1) 9 1 (.slice a' A.length c') A.length ((harm1 A h).map .string) ∧ Below w.heap.size w w' := by
  obtain ⟨i0, hi, hz0, hz1, hz2⟩ := info_parts infoS
  have HA := Lib.hid hA
  have HD := Lib.hid hd
  clear hA hd
  go_enter Try.func12, Try.ntmps12
  go_wp2_with fail
  go_loopw [5, 6] (fun o i wr => ∃ k : Nat, k ≤ A.length ∧ i = .int .i64 k ∧ wr.ownsRow (w.heap.size + 1) 9 1 o k (((harm1 A h).take k).map .string) ∧ Blk wr w.heap.size 44 #[.int .i64 2, .int .i64 h.s, .int .i64 h.a, .int .u8 h.b] ∧ Below w.heap.size w wr) (fun _ i _ => A.length - (intOf i).toNat)
  case atStart => exact ⟨0, by omega, rfl, World.ownsRow_nil _ _ _ _, Blk.new _ _ _, (Below.refl _ _).alloc (Nat.le_refl _) _⟩
  case round =>
    obtain ⟨k, hk, rfl, hown, hbox, hb⟩ := hrel
    by_cases hkl : k < A.length
    · have t0 : decide (k < A.length) = true := by simpa using hkl
      obtain ⟨x, hx⟩ : ∃ x, A[k]? = some x := ⟨A[k], List.getElem?_eq_getElem hkl⟩
      obtain ⟨b1, o1, rfl, l1, c1⟩ := HA.out.below (Nat.le_refl _) hb k x hx
      have d0 := Blk.cell hbox 0 (v := .int .i64 2) rfl
      have d1 := Blk.cell hbox 1 (v := .int .i64 h.s) rfl
      have d2 := Blk.cell hbox 2 (v := .int .i64 h.a) rfl
      have d3 := Blk.cell hbox 3 (v := .int .u8 h.b) rfl
      have HX := Lib.hid hx
      clear hx
      by_cases hs : (k : Int) = h.s
      · have t1 : ((k : Int) == h.s) = true := by simpa using hs
        by_cases ha : 0 ≤ h.a ∧ h.a < x.size
        · obtain ⟨i, hai⟩ : ∃ i : Nat, h.a = i := ⟨h.a.toNat, by omega⟩
          have t3 : decide (i < x.size) = true := by simp; omega
          have hix : i < x.size := by omega
          have hxs := hsz x (List.mem_of_getElem? HX.out)
          rw [hai] at d2 hbox
          have HAI := Lib.hid hai
          have HS := Lib.hid hs
          clear ha hs hai hsz
          go_wp2_with fail
          have hcv : (convert 38 9 (.slice (some ⟨wr.heap.size, 0, none⟩) 1 1)).run Try.prog (wr.alloc (Obj.cells #[Value.int IntKind.u8 (bits BinOp.xor IntKind.u8 (↑x[i].toNat) h.b)] 5)).drew = .ok (.string (strOfNums [bits BinOp.xor IntKind.u8 (↑x[i].toNat) h.b])) (wr.alloc (Obj.cells #[Value.int IntKind.u8 (bits BinOp.xor IntKind.u8 (↑x[i].toNat) h.b)] 5)).drew :=
            run_convert_bytes_arg (P := Try.prog) _ 38 5 Try.underlying38 Try.underlying5 wr.heap.size 0 1 1 [bits BinOp.xor IntKind.u8 (↑x[i].toNat) h.b] rfl (fun j hj => by
              obtain rfl : j = 0 := by omega
              exact cell_one_new wr (.int .u8 _) _ 0 _ rfl) _ Try.underlying9
          have hw := Blk.lt hbox
          have e2 : ∀ o, (wr.alloc o).cell? ⟨w.heap.size, 2, none⟩ = some (.int .i64 i) := fun o => Blk.cell (hbox.alloc o) 2 (v := .int .i64 i) rfl
          have e3 : ∀ o, (wr.alloc o).cell? ⟨w.heap.size, 3, none⟩ = some (.int .u8 h.b) := fun o => Blk.cell (hbox.alloc o) 3 (v := .int .u8 h.b) rfl
          have q1 : (x.extract 0 i).size = i := By.ext_size x (a := 0) (by omega)
          have q2 : ∀ z, (strOfNums [z]).size = 1 := fun z => strOfNums_size [z]
          have q3 : (x.extract (i + 1) x.size).size = x.size - (i + 1) := By.ext_size x (Nat.le_refl _)
          have a1 : ∀ (V : World) z, (Op.stringOp .add (x.extract 0 i) (strOfNums [z])).run Try.prog V = .ok (.string (x.extract 0 i ++ strOfNums [z])) V := fun V z => run_string_add_sum V _ _ (by rw [q1, q2]; omega)
          have a2 : ∀ (V : World) z, (Op.stringOp .add (x.extract 0 i ++ strOfNums [z]) (x.extract (i + 1) x.size)).run Try.prog V = .ok (.string (x.extract 0 i ++ strOfNums [z] ++ x.extract (i + 1) x.size)) V := fun V z => run_string_add_sum V _ _ (by rw [ByteArray.size_append, q1, q2, q3]; omega)
          clear q1 q2 q3
          clear c1 t1 t3
          go_region
          have hX := (el2 HD.out hkl).trans (if_pos ⟨HS.out, by rw [HAI.out, HX.out]; exact ⟨by omega, by show (i : Int) < x.size; omega⟩⟩)
          rw [HX.out, HAI.out] at hX
          rw [cat_turn x i h.b hix hb0]
          have HX2 := Lib.hid (show (harm1 A h)[k]? = some (turnB x i h.b) from hX)
          obtain ⟨V, hV⟩ : ∃ V, (wr.alloc (Obj.cells #[Value.int IntKind.u8 (bits BinOp.xor IntKind.u8 (↑x[i].toNat) h.b)] 5)).drew = V := ⟨_, rfl⟩
          have hown9 := (hown.alloc (Obj.cells #[Value.int IntKind.u8 (bits BinOp.xor IntKind.u8 (↑x[i].toNat) h.b)] 5)).drew
          have hbox9 := Blk.drew (hbox.alloc (Obj.cells #[Value.int IntKind.u8 (bits BinOp.xor IntKind.u8 (↑x[i].toNat) h.b)] 5))
          rw [hV] at hown9 hbox9
          have hb9 : Below w.heap.size w V := by rw [← hV]; exact below_drewN (hb.alloc hb.size _) 1
          rw [hV]
          rw [← HAI.out] at hbox9
          clear hown hbox hb hV d0 d1 d2 d3 hcv a1 a2 e2 e3 hX
          have hown := hown9
          have hbox := hbox9
          have hb := hb9
          clear hown9 hbox9 hb9
          have d0 := Blk.cell hbox 0 (v := .int .i64 2) rfl
          have d1 := Blk.cell hbox 1 (v := .int .i64 h.s) rfl
          have t1 : ((k : Int) == h.s) = true := by simpa using HS.out
          have hRk : (harm1 A h)[k]? = some (turnB x i h.b) := HX2.out
          have HRk := Lib.hid hRk
          clear hRk
          go_wp2_with (first | (at_builtin; refine wpList_append_own _ rfl _ _ 24 rfl (w.heap.size + 1) 9 i0 (.string ByteArray.empty) 1 16 Try.underlying24 hi hz0 hz1 hz2 rfl (by decide) _ _ _ rfl (hown.alloc _) ⟨V.heap.size, 0, none⟩ 1 1 [.string (turnB x i h.b)] rfl rfl (cell_one_new _ _ _) ?c1 ?c2 ?c3 ?c4 ?_) | fail)
          case c1 => simp [Value.oneCell']
          case c2 => unfold maxLen; omega
          case c3 => omega
          case c4 => have := Blk.lt hbox; simp; omega
          intro v' w1 hown' hgrow _
          have hown2 : w1.ownsRow (w.heap.size + 1) 9 1 v' (k + 1) (((harm1 A h).take (k + 1)).map .string) := by
            rw [List.take_add_one, HRk.out]
            simpa using hown'
          have hgr := hown.lt
          have hbox2 := Blk.grown (hbox.alloc _) hgrow (fun e => by have := (hgr _ e.symm).1; omega)
          have hb2 := (hb.alloc hb.size _).grown hgrow (by have := hb.size; simp; omega) (fun r e => by have := (hgr r e).1; omega)
          clear hown hown' hgrow hb hgr
          go_wp2_with fail
          go_roundw
          case rel => exact ⟨k + 1, by omega, by go_num, hown2, hbox2, hb2⟩
          case measure => simp [intOf]; omega
        · have hX := ((el2 HD.out hkl).trans (if_neg (fun e => ha (by have := e.2; rw [HX.out] at this; exact this)))).trans HX.out
          by_cases ha0 : 0 ≤ h.a
          · have t2 : decide (0 ≤ h.a) = true := by simpa using ha0
            have t3 : decide (h.a < (x.size : Int)) = false := by simp; omega
            clear ha hs hsz
            have hRk : (harm1 A h)[k]? = some (x) := hX
            have HRk := Lib.hid hRk
            clear hRk
            go_wp2_with (first | (at_builtin; refine wpList_append_own _ rfl _ _ 24 rfl (w.heap.size + 1) 9 i0 (.string ByteArray.empty) 1 16 Try.underlying24 hi hz0 hz1 hz2 rfl (by decide) _ _ _ rfl (hown.alloc _) ⟨wr.heap.size, 0, none⟩ 1 1 [.string (x)] rfl rfl (cell_one_new _ _ _) ?c1 ?c2 ?c3 ?c4 ?_) | fail)
            case c1 => simp [Value.oneCell']
            case c2 => unfold maxLen; omega
            case c3 => omega
            case c4 => have := Blk.lt hbox; simp; omega
            intro v' w1 hown' hgrow _
            have hown2 : w1.ownsRow (w.heap.size + 1) 9 1 v' (k + 1) (((harm1 A h).take (k + 1)).map .string) := by
              rw [List.take_add_one, HRk.out]
              simpa using hown'
            have hgr := hown.lt
            have hbox2 := Blk.grown (hbox.alloc _) hgrow (fun e => by have := (hgr _ e.symm).1; omega)
            have hb2 := (hb.alloc hb.size _).grown hgrow (by have := hb.size; simp; omega) (fun r e => by have := (hgr r e).1; omega)
            clear hown hown' hgrow hb hgr
            go_wp2_with fail
            go_roundw
            case rel => exact ⟨k + 1, by omega, by go_num, hown2, hbox2, hb2⟩
            case measure => simp [intOf]; omega
          · have t2 : decide (0 ≤ h.a) = false := by simpa using ha0
            clear ha hs hsz
            have hRk : (harm1 A h)[k]? = some (x) := hX
            have HRk := Lib.hid hRk
            clear hRk
            go_wp2_with (first | (at_builtin; refine wpList_append_own _ rfl _ _ 24 rfl (w.heap.size + 1) 9 i0 (.string ByteArray.empty) 1 16 Try.underlying24 hi hz0 hz1 hz2 rfl (by decide) _ _ _ rfl (hown.alloc _) ⟨wr.heap.size, 0, none⟩ 1 1 [.string (x)] rfl rfl (cell_one_new _ _ _) ?c1 ?c2 ?c3 ?c4 ?_) | fail)
            case c1 => simp [Value.oneCell']
            case c2 => unfold maxLen; omega
            case c3 => omega
            case c4 => have := Blk.lt hbox; simp; omega
            intro v' w1 hown' hgrow _
            have hown2 : w1.ownsRow (w.heap.size + 1) 9 1 v' (k + 1) (((harm1 A h).take (k + 1)).map .string) := by
              rw [List.take_add_one, HRk.out]
              simpa using hown'
            have hgr := hown.lt
            have hbox2 := Blk.grown (hbox.alloc _) hgrow (fun e => by have := (hgr _ e.symm).1; omega)
            have hb2 := (hb.alloc hb.size _).grown hgrow (by have := hb.size; simp; omega) (fun r e => by have := (hgr r e).1; omega)
            clear hown hown' hgrow hb hgr
            go_wp2_with fail
            go_roundw
            case rel => exact ⟨k + 1, by omega, by go_num, hown2, hbox2, hb2⟩
            case measure => simp [intOf]; omega
      · have t1 : ((k : Int) == h.s) = false := by simpa using hs
        have hX := ((el2 HD.out hkl).trans (if_neg (fun e => hs e.1))).trans HX.out
        clear hs
        have hRk : (harm1 A h)[k]? = some (x) := hX
        have HRk := Lib.hid hRk
        clear hRk
        go_wp2_with (first | (at_builtin; refine wpList_append_own _ rfl _ _ 24 rfl (w.heap.size + 1) 9 i0 (.string ByteArray.empty) 1 16 Try.underlying24 hi hz0 hz1 hz2 rfl (by decide) _ _ _ rfl (hown.alloc _) ⟨wr.heap.size, 0, none⟩ 1 1 [.string (x)] rfl rfl (cell_one_new _ _ _) ?c1 ?c2 ?c3 ?c4 ?_) | fail)
        case c1 => simp [Value.oneCell']
        case c2 => unfold maxLen; omega
        case c3 => omega
        case c4 => have := Blk.lt hbox; simp; omega
        intro v' w1 hown' hgrow _
        have hown2 : w1.ownsRow (w.heap.size + 1) 9 1 v' (k + 1) (((harm1 A h).take (k + 1)).map .string) := by
          rw [List.take_add_one, HRk.out]
          simpa using hown'
        have hgr := hown.lt
        have hbox2 := Blk.grown (hbox.alloc _) hgrow (fun e => by have := (hgr _ e.symm).1; omega)
        have hb2 := (hb.alloc hb.size _).grown hgrow (by have := hb.size; simp; omega) (fun r e => by have := (hgr r e).1; omega)
        clear hown hown' hgrow hb hgr
        go_wp2_with fail
        go_roundw
        case rel => exact ⟨k + 1, by omega, by go_num, hown2, hbox2, hb2⟩
        case measure => simp [intOf]; omega
    · obtain rfl : k = A.length := by omega
      have t0 : decide (A.length < A.length) = false := by simp
      rw [List.take_of_length_le (by rw [harm1_length]; exact Nat.le_refl _)] at hown
      obtain ⟨_, a', c', rfl, _⟩ := own_form hown
      go_wp2_with fail
      go_ret
      exact ⟨a', c', rfl, hown, hb⟩
end Go.Proofs.Ytnoioklkpeoopaa.LkRef2
