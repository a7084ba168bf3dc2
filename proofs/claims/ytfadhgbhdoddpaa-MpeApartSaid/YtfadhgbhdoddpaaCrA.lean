/- crc, walked: the table. -/
import Derived.Test.YtfadhgbhdoddpaaRg
import Derived.Test.YtfadhgbhdoddpaaCrP
import Derived.Test.YtfadhgbhdoddpaaRows
import Derived.Outline
import Derived.Lib.Hide
import Derived.Laws.BitsLemmas
namespace Go.Proofs.Ytfadhgbhdoddpaa.CrA
open Go Go.RowKit Go.Proofs.Ytfadhgbhdoddpaa.Q Go.Proofs.Ytfadhgbhdoddpaa.Mem Go.Proofs.Ytfadhgbhdoddpaa.Rg Go.Proofs.Ytfadhgbhdoddpaa.CrP

/-- a number of 32 bits, as the walk has it -/
abbrev u (x : BitVec 32) : Int := (x.toNat : Int)
theorem u_range (x : BitVec 32) : 0 ≤ u x ∧ u x < 4294967296 := by have := x.isLt; unfold u; omega
theorem of_u (x : BitVec 32) : BitVec.ofInt 32 (u x) = x := by
  apply BitVec.eq_of_toNat_eq
  have := x.isLt
  simp [u]
theorem wrap_u (x : BitVec 32) : IntKind.u32.wrap (u x) = u x := by have := u_range x; rw [IntKind.wrap_u32]; omega
theorem xor_u (x y : BitVec 32) : bits .xor .u32 (u x) (u y) = u (x ^^^ y) := by
  have e : bits .xor .u32 (u x) (u y) = IntKind.u32.wrap (((BitVec.ofInt 32 (u x)) ^^^ (BitVec.ofInt 32 (u y))).toNat : Int) := rfl
  rw [e, of_u, of_u]
  exact wrap_u _
theorem and_u (x y : BitVec 32) : bits .and .u32 (u x) (u y) = u (x &&& y) := by
  have e : bits .and .u32 (u x) (u y) = IntKind.u32.wrap (((BitVec.ofInt 32 (u x)) &&& (BitVec.ofInt 32 (u y))).toNat : Int) := rfl
  rw [e, of_u, of_u]
  exact wrap_u _
theorem high_u (x : BitVec 32) : (bits .and .u32 (u x) 2147483648 != 0) = x.msb := by
  have e := and_u x 2147483648#32
  rw [show u 2147483648#32 = 2147483648 by decide] at e
  rw [e, BitVec.msb_eq_getLsbD_last]
  cases h : x.getLsbD (32 - 1) with
  | true =>
    have : (x &&& 2147483648#32).getLsbD 31 = true := by rw [BitVec.getLsbD_and, show x.getLsbD 31 = true from h]; decide
    have : x &&& 2147483648#32 ≠ 0#32 := fun e => by rw [e] at this; simp at this
    have : (x &&& 2147483648#32).toNat ≠ 0 := fun e => this (BitVec.eq_of_toNat_eq (by simpa using e))
    have h0 : u (x &&& 2147483648#32) ≠ 0 := by unfold u; omega
    simpa using h0
  | false =>
    have : x &&& 2147483648#32 = 0#32 := by
      apply BitVec.eq_of_getLsbD_eq
      intro i hi
      rw [BitVec.getLsbD_and]
      by_cases h31 : i = 31
      · rw [h31, show x.getLsbD 31 = false from h]; simp
      · have : (2147483648#32).getLsbD i = false := by
          rw [show 2147483648#32 = BitVec.twoPow 32 31 by decide, BitVec.getLsbD_twoPow]
          simp; omega
        rw [this]; simp
    rw [this]; simp [u]
theorem shl1_u (x : BitVec 32) : IntKind.u32.wrap (u x * 2) = u (x <<< 1) := by
  have := x.isLt
  rw [IntKind.wrap_u32]
  unfold u
  rw [BitVec.toNat_shiftLeft, Nat.shiftLeft_eq]
  omega
theorem shl8_u (x : BitVec 32) : IntKind.u32.wrap (u x * 256) = u (x <<< 8) := by
  have := x.isLt
  rw [IntKind.wrap_u32]
  unfold u
  rw [BitVec.toNat_shiftLeft, Nat.shiftLeft_eq]
  omega
def zeros : Array Value := Array.replicate 256 (.int .u32 0)
/-- the table so far -/
def tab (k : Nat) : Array Value := ((List.range 256).map fun i => if i < k then Value.int .u32 (u (row i)) else .int .u32 0).toArray
set_option maxRecDepth 100000
def rowsV : Array Value := ((List.range 256).map fun i => Value.int .u32 (u (row i))).toArray
theorem tab_zero : zeros = tab 0 := by kernel_rfl
theorem tab_full : tab 256 = rowsV := by
  unfold tab rowsV
  exact congrArg List.toArray (List.map_congr_left fun i hi => by rw [if_pos (List.mem_range.1 hi)])
theorem tab_set (k : Nat) (hk : k < 256) : (tab k).setIfInBounds k (.int .u32 (u (row k))) = tab (k + 1) := by
  apply Array.ext_getElem?
  intro i
  unfold tab
  rw [Array.getElem?_setIfInBounds]
  simp only [List.getElem?_toArray, List.getElem?_map, List.size_toArray, List.length_map, List.length_range]
  by_cases hi : k = i
  · subst hi
    rw [if_pos rfl, if_pos hk, List.getElem?_range hk]
    simp
  · rw [if_neg hi]
    by_cases h2 : i < 256
    · rw [List.getElem?_range h2]
      simp only [Option.map_some]
      by_cases h3 : i < k
      · rw [if_pos h3, if_pos (by omega)]
      · rw [if_neg h3, if_neg (by omega)]
    · rw [List.getElem?_eq_none (by simp; omega)]; rfl
set_option maxRecDepth 100000 in
set_option maxHeartbeats 800000 in
theorem rows_any (w : World) : Calls Try.prog 77 #[] w fun e w' => e = .returned (.agg rowsV) ∧ Below w.heap.size w w' := by
  have hz : ∀ V : World, (zeroValue 132).run Try.prog V = .ok (.agg zeros) V := fun V => by kernel_rfl
  have HB := Lib.hid (bk2 w 132 132 zeros zeros)
  go_enter Try.func77, Try.ntmps77
  go_wp2_with fail
  go_loopw [5] (fun i wr => ∃ k : Nat, k ≤ 256 ∧ i = .int .i64 k ∧ Hid (Bk w wr [(w.heap.size + 1, 132, tab k), (w.heap.size, 132, zeros)])) (fun i _ => 256 - (intOf i).toNat)
  case atStart => exact ⟨0, by omega, rfl, Lib.hid (by rw [← tab_zero]; exact HB.out)⟩
  case round =>
    obtain ⟨k, hk, rfl, hB⟩ := hrel
    by_cases hlt : k < 256
    · have t0 : decide ((k : Int) < 256) = true := by simp; omega
      have q1 : IntKind.u32.wrap (k : Int) = k := by rw [IntKind.wrap_u32]; omega
      have q2 : IntKind.u32.wrap ((k : Int) * 16777216) = u (BitVec.ofNat 32 (k * 16777216)) := by rw [IntKind.wrap_u32]; unfold u; rw [of_toNat _ (by omega)]; omega
      go_wp2_with fail
      obtain ⟨wo, rfl⟩ : ∃ wo : World, wo = wr := ⟨_, rfl⟩
      go_loop [3, 11] (fun x i => ∃ j : Nat, j ≤ 8 ∧ i = .int .i64 j ∧ x = .int .u32 (u (shN j (BitVec.ofNat 32 (k * 16777216))))) (fun _ i => 8 - (intOf i).toNat)
      case atStart => exact ⟨0, by omega, rfl, rfl⟩
      case round =>
        obtain ⟨j, hj, rfl, rfl⟩ := hrel
        by_cases hj8 : j < 8
        · have t1 : decide ((j : Int) < 8) = true := by simp; omega
          obtain ⟨X, hX⟩ : ∃ X, shN j (BitVec.ofNat 32 (k * 16777216)) = X := ⟨_, rfl⟩
          have HX := Lib.hid (show shN (j + 1) (BitVec.ofNat 32 (k * 16777216)) = sh X by rw [shN, hX])
          have h1 := high_u X
          have s1 := shl1_u X
          rw [hX]
          cases hm : X.msb with
          | true =>
            rw [hm] at h1
            have HS := Lib.hid (show u (sh X) = u ((X <<< 1) ^^^ poly) by unfold sh; rw [hm]; rfl)
            have x1 := xor_u (X <<< 1) poly
            rw [show u poly = 79764919 by decide] at x1
            clear hX hm
            go_wp2_with fail
            go_round
            case rel => exact ⟨j + 1, by omega, by go_num, by rw [HX.out, HS.out]⟩
            case measure => simp [intOf]; omega
          | false =>
            rw [hm] at h1
            have HS := Lib.hid (show u (sh X) = u (X <<< 1) by unfold sh; rw [hm]; simp)
            clear hX hm
            go_wp2_with fail
            go_round
            case rel => exact ⟨j + 1, by omega, by go_num, by rw [HX.out, HS.out]⟩
            case measure => simp [intOf]; omega
        · obtain rfl : j = 8 := by omega
          have t1 : decide (((8 : Nat) : Int) < 8) = false := by decide
          rw [show shN 8 (BitVec.ofNat 32 (k * 16777216)) = row k from rfl]
          have hc := Blk.cell (hB.out.nth 0 rfl) k (v := .int .u32 0) (by simp [tab, hlt])
          have hf := Blk.frozen (hB.out.nth 0 rfl) k
          have k0 : (0 : Int) ≤ (k : Int) := Int.natCast_nonneg _
          have k1 : (k : Int) < 256 := by omega
          go_wp2_with fail
          go_roundw
          case rel => exact ⟨k + 1, by omega, by go_num, Lib.hid (by
            have hb := hB.out
            have h0 := hb.nth 0 rfl
            have h1 := hb.nth 1 rfl
            refine ⟨hb.be.setCell (p := ⟨w.heap.size + 1, k, none⟩) (by simp) _, fun x hx => ?_⟩
            rcases List.mem_cons.1 hx with rfl | hx
            · have := Blk.set_ h0 k (.int .u32 (u (row k)))
              dsimp only at this
              rw [tab_set k hlt] at this
              exact this
            · rcases List.mem_cons.1 hx with rfl | hx
              · exact Blk.far h1 (by simp) _
              · cases hx)⟩
          case measure => simp [intOf]; omega
    · obtain rfl : k = 256 := by omega
      have t0 : decide (((256 : Nat) : Int) < 256) = false := by decide
      have hb := hB.out
      rw [tab_full] at hb
      have h0 := hb.nth 0 rfl
      have h1 := hb.nth 1 rfl
      have HB1 := Lib.hid hb.be
      have hA : rowsV.all (·.oneCell') = true := by kernel_rfl
      have HA := Lib.hid hA
      clear hA hb hB HB
      go_wp2_with (first
        | (refine wpList_load_row rfl 132 _ rfl (w.heap.size + 1) rfl 132 rowsV (0, 0) _ h0 Try.underlying132 rfl (by kernel_rfl) ?_)
        | (refine wpList_store_blk (g := w.heap.size) (T := 132) (cs := zeros) (cs' := rowsV) rfl 132 _ _ rfl rfl rfl h1 (by kernel_rfl) (by kernel_rfl) (by kernel_rfl) HA.out ?_; intro W9 hW9 hg9 hz9))
      exact bodyPost_ret (v := .agg rowsV) (results_cell_row rfl _ _ w.heap.size 132 rowsV (0, 0) _ rfl hW9 Try.underlying132 rfl (by kernel_rfl)) rfl ⟨rfl, HB1.out.trans (below_of_only hg9 HB1.out.size (fun k hk => by injection hk with hk; omega))⟩
end Go.Proofs.Ytfadhgbhdoddpaa.CrA
