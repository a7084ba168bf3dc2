import Derived.Test.YtbiiehobfnbloaaGreatDoorLnPkA
import Derived.Test.YtbiiehobfnbloaaGreatDoorRows
import Derived.Laws.BytesArg
import Derived.Laws.BitsLemmas
import Derived.Laws.IdiomStrings
import Derived.Laws.StructEq
import Derived.Lib.Hide
import Derived.Outline
import Derived.WalkKit
import Derived.RangeFuncBox
import Derived.RangeFuncLeaves
import Derived.RangeFuncWrites
import Derived.Shelf.Abstract
import Derived.OwnWalkIn
import Derived.TacticsInMore
import Derived.LoopNIn
import Derived.LoopIn
import Derived.Sort.LoopGhostIn
import Derived.RangeFuncCalls
import Derived.Laws.OwnMore
namespace Go.Proofs.YtbiiehobfnbloaaGreatDoor.St
open Go Go.RowKit Q Mem Rg
def str (l : List UInt8) : ByteArray := ⟨l.toArray⟩
def bl (s : ByteArray) : List UInt8 := s.data.toList
abbrev nob : ByteArray := { data := #[] }
theorem str_size (l : List UInt8) : (str l).size = l.length := by simp [str, ByteArray.size]
theorem str_app (l m : List UInt8) : str l ++ str m = str (l ++ m) := by
  unfold str
  rw [ByteArray.mk_append_mk]
theorem str_bl (s : ByteArray) : str (bl s) = s := by cases s; rfl
theorem bl_str (l : List UInt8) : bl (str l) = l := rfl
theorem bl_len (s : ByteArray) : (bl s).length = s.size := rfl
theorem bl_inj {s t : ByteArray} (h : bl s = bl t) : s = t := by rw [← str_bl s, h, str_bl]
theorem nums_str (L : List Int) : strOfNums L = str (L.map fun n => UInt8.ofNat n.toNat) := rfl
def at' (s : ByteArray) (i : Nat) : Int := ((s.data[i]?.getD 0).toNat : Int)
theorem byte_at (s : ByteArray) (i : Nat) (h : i < s.size) : ∃ b : UInt8, (bl s)[i]? = some b ∧ at' s i = (b.toNat : Int) := by
  have h' : i < s.data.size := h
  refine ⟨s.data[i], by simp [bl], ?_⟩
  unfold at'
  rw [Array.getElem?_eq_getElem h']; rfl
theorem ext_size (s : ByteArray) {a b : Nat} (h : b ≤ s.size) : (s.extract a b).size = b - a := by
  rw [ByteArray.size_extract]; omega
set_option maxRecDepth 100000
theorem idx_at (s : ByteArray) (i : Nat) (h : i < s.size) (V : World) : (Instr.index 9 (.string s) (.int .i64 (i : Int))).run Tryz.prog V = .ok (.int .u8 (at' s i)) V := by
  rw [run_index_string V _ s .i64 i Tryz.underlying9, dif_pos ⟨by omega, by omega⟩]
  have h' : i < s.data.size := h
  have : (s.data[i]?.getD 0) = s.data[i] := by rw [Array.getElem?_eq_getElem h']; rfl
  unfold at'
  rw [this]
  rfl
theorem conv_new (V : World) (l : List Int) (n g : Nat) (cs : Array Value) (hn : l.length = n) (hc : cs = (l.map (Value.int .u8)).toArray) (hg : g = V.heap.size) :
    (convert 145 9 (.slice (some ⟨g, 0, none⟩) n n)).run Tryz.prog (V.alloc (.cells cs 5)) = .ok (.string (strOfNums l)) (V.alloc (.cells cs 5)) := by
  have q : Blk (V.alloc (.cells cs 5)) g 5 cs := Blk.newAt _ _ _ hg
  exact run_convert_bytes_arg (P := Tryz.prog) _ 145 5 Tryz.underlying145 Tryz.underlying5 g 0 n n l hn (fun j hj => by
    rw [Nat.zero_add]
    refine Blk.cell q j ?_
    rw [hc, List.getElem?_toArray, List.getElem?_map, List.getElem?_eq_getElem (show j < l.length by omega), List.getD_eq_getElem?_getD, List.getElem?_eq_getElem (show j < l.length by omega)]
    rfl) _ Tryz.underlying9
theorem add_at (a b : ByteArray) (h : a.size + b.size ≤ 140737488355328) (U : World) : (Op.stringOp .add a b).run Tryz.prog U = .ok (.string (a ++ b)) U := run_string_add_sum U _ _ (by omega)
end Go.Proofs.YtbiiehobfnbloaaGreatDoor.St
namespace Go.Proofs.YtbiiehobfnbloaaGreatDoor.Ints
open Go.RowKit Mem St
def Ints (w : World) (a : Option Addr) (zs : List Int) : Prop := ∀ i x, zs[i]? = some x → ∃ b o, a = some ⟨b, o, none⟩ ∧ b < w.heap.size ∧ w.cell? ⟨b, o + i, none⟩ = some (.int .i64 x)
theorem Ints.below {w w' : World} {a : Option Addr} {zs : List Int} {B : Nat} (h : Ints w a zs) (hB : w.heap.size ≤ B) (hb : Below B w w') : Ints w' a zs := fun i x hi => by
  obtain ⟨b, o, h1, h2, h3⟩ := h i x hi
  exact ⟨b, o, h1, Nat.lt_of_lt_of_le h2 hb.size, (World.cell?_of_block (a := ⟨b, o + i, none⟩) (hb.block b (by omega))).trans h3⟩
theorem ints_blk {w : World} {g : Nat} {t : TypeId} {zs : List Int} {cs : Array Value} (h : Blk w g t cs) (hc : cs = (zs.map (Value.int .i64)).toArray) : Ints w (some ⟨g, 0, none⟩) zs := fun i x hi =>
  ⟨g, 0, rfl, h.lt, by rw [Nat.zero_add]; exact Blk.cell h i (by subst hc; simp [hi])⟩
def in1 (most n : Int) : Bool := decide (0 ≤ n ∧ n ≤ most)
def inB (most : Int) (l : List Int) : Bool := l.all (in1 most)
theorem son_append (a b : List Int) : strOfNums a ++ strOfNums b = strOfNums (a ++ b) := by rw [nums_str, nums_str, nums_str, str_app, List.map_append]
theorem son_size (l : List Int) : (strOfNums l).size = l.length := by rw [nums_str, str_size, List.length_map]
end Go.Proofs.YtbiiehobfnbloaaGreatDoor.Ints
namespace Go.Proofs.YtbiiehobfnbloaaGreatDoor.CrP
open Go Go.RowKit
def poly : BitVec 32 := 79764919#32
def sh (x : BitVec 32) : BitVec 32 := (x <<< 1) ^^^ (if x.msb then poly else 0#32)
theorem sh_xor (x y : BitVec 32) : sh (x ^^^ y) = sh x ^^^ sh y := by
  unfold sh
  rw [BitVec.shiftLeft_xor_distrib, BitVec.msb_xor]
  generalize x <<< 1 = a
  generalize y <<< 1 = b
  generalize poly = p
  cases x.msb <;> cases y.msb <;> simp only [Bool.xor_false, Bool.xor_true, Bool.not_true, Bool.not_false, if_true, if_false, Bool.false_eq_true] <;> (ext i hi; simp; try (cases a[i] <;> cases b[i] <;> cases p[i] <;> rfl))
def shN : Nat → BitVec 32 → BitVec 32
  | 0, x => x
  | n + 1, x => sh (shN n x)
theorem shN_xor (n : Nat) (x y : BitVec 32) : shN n (x ^^^ y) = shN n x ^^^ shN n y := by
  induction n with
  | zero => rfl
  | succ n ih => simp only [shN, ih, sh_xor]
theorem sh_small (z : BitVec 32) (h : z.toNat < 2 ^ 31) : sh z = z <<< 1 := by
  unfold sh
  have : z.msb = false := by rw [BitVec.msb_eq_decide]; simpa using h
  rw [this]; simp
theorem shN_small (z : BitVec 32) (k : Nat) (hk : k ≤ 8) (h : z.toNat < 2 ^ 24) : shN k z = z <<< k := by
  induction k with
  | zero => simp [shN]
  | succ k ih =>
    have e : (z <<< k).toNat = z.toNat * 2 ^ k := by
      rw [BitVec.toNat_shiftLeft, Nat.shiftLeft_eq]
      apply Nat.mod_eq_of_lt
      have : 2 ^ k ≤ 2 ^ 8 := Nat.pow_le_pow_right (by decide) (by omega)
      calc z.toNat * 2 ^ k ≤ z.toNat * 2 ^ 8 := Nat.mul_le_mul_left _ this
        _ < 2 ^ 32 := by omega
    have hlt : (z <<< k).toNat < 2 ^ 31 := by
      rw [e]
      have : 2 ^ k ≤ 2 ^ 7 := Nat.pow_le_pow_right (by decide) (by omega)
      calc z.toNat * 2 ^ k ≤ z.toNat * 2 ^ 7 := Nat.mul_le_mul_left _ this
        _ < 2 ^ 31 := by omega
    rw [shN, ih (by omega), sh_small _ hlt, ← BitVec.shiftLeft_add]
def top (c : UInt8) : BitVec 32 := BitVec.ofNat 32 (c.toNat * 16777216)
theorem top_toNat (c : UInt8) : (top c).toNat = c.toNat * 16777216 := by
  unfold top
  rw [BitVec.toNat_ofNat]
  have := UInt8.toNat_lt c
  omega
def bs (x : BitVec 32) (c : UInt8) : BitVec 32 := shN 8 (x ^^^ top c)
def crc (x : BitVec 32) (l : List UInt8) : BitVec 32 := l.foldl bs x
theorem crc_app (x : BitVec 32) (l m : List UInt8) : crc x (l ++ m) = crc (crc x l) m := by simp [crc]
def hi (x : BitVec 32) : UInt8 := UInt8.ofNat (x.toNat / 16777216)
theorem hi_toNat (x : BitVec 32) : (hi x).toNat = x.toNat / 16777216 := by
  unfold hi
  rw [UInt8.toNat_ofNat']
  have := x.isLt
  omega
theorem low_toNat (x : BitVec 32) : (x ^^^ top (hi x)).toNat = x.toNat % 16777216 := by
  rw [BitVec.toNat_xor, top_toNat, hi_toNat]
  obtain ⟨q, hq⟩ : ∃ q, x.toNat / 16777216 = q := ⟨_, rfl⟩
  obtain ⟨r, hr⟩ : ∃ r, x.toNat % 16777216 = r := ⟨_, rfl⟩
  have hd : x.toNat = 2 ^ 24 * q + r := by omega
  have hlt : r < 2 ^ 24 := by omega
  rw [hq, hr, hd, show q * 16777216 = 2 ^ 24 * q + 0 by omega]
  apply Nat.eq_of_testBit_eq
  intro i
  rw [Nat.testBit_xor, Nat.testBit_two_pow_mul_add _ hlt, Nat.testBit_two_pow_mul_add _ (by decide)]
  split
  · simp
  · rename_i h
    simp
    exact Nat.testBit_lt_two_pow (Nat.lt_of_lt_of_le hlt (Nat.pow_le_pow_right (show 2 > 0 by decide) (show 24 ≤ i by omega)))
theorem bs_hi (x : BitVec 32) : bs x (hi x) = x <<< 8 := by
  unfold bs
  rw [shN_small _ 8 (Nat.le_refl _) (by rw [low_toNat]; omega)]
  apply BitVec.eq_of_toNat_eq
  rw [BitVec.toNat_shiftLeft, BitVec.toNat_shiftLeft, low_toNat, Nat.shiftLeft_eq, Nat.shiftLeft_eq]
  omega
theorem of_toNat (n : Nat) (hn : n < 4294967296) : (BitVec.ofNat 32 n).toNat = n := by rw [BitVec.toNat_ofNat]; omega
def row (i : Nat) : BitVec 32 := shN 8 (BitVec.ofNat 32 (i * 16777216))
theorem xor_lt {a b : Nat} (ha : a < 256) (hb : b < 256) : a ^^^ b < 256 := Nat.xor_lt_two_pow (n := 8) ha hb
theorem table_bs (x : BitVec 32) (c : UInt8) : (x <<< 8) ^^^ row ((hi x).toNat ^^^ c.toNat) = bs x c := by
  have h1 := hi_toNat x
  have lc := UInt8.toNat_lt c
  have lh := UInt8.toNat_lt (hi x)
  have hx : top (hi x) ^^^ top c = BitVec.ofNat 32 (((hi x).toNat ^^^ c.toNat) * 16777216) := by
    apply BitVec.eq_of_toNat_eq
    have := xor_lt lh lc
    rw [BitVec.toNat_xor, top_toNat, top_toNat, of_toNat _ (by omega)]
    rw [show (16777216 : Nat) = 2 ^ 24 by decide, ← Nat.shiftLeft_eq, ← Nat.shiftLeft_eq, ← Nat.shiftLeft_eq, ← Nat.shiftLeft_xor_distrib]
  unfold row
  rw [← hx]
  have hb := bs_hi x
  unfold bs at hb ⊢
  rw [← hb, ← shN_xor]
  congr 1
  rw [BitVec.xor_assoc, ← BitVec.xor_assoc (top (hi x)), BitVec.xor_self, BitVec.zero_xor]
end Go.Proofs.YtbiiehobfnbloaaGreatDoor.CrP
namespace Go.Proofs.YtbiiehobfnbloaaGreatDoor.CrA
open Go Go.RowKit Q Mem Rg CrP
abbrev u (x : BitVec 32) : Int := (x.toNat : Int)
theorem u_range (x : BitVec 32) : 0 ≤ u x ∧ u x < 4294967296 := by have := x.isLt; unfold u; omega
theorem of_u (x : BitVec 32) : BitVec.ofInt 32 (u x) = x := by
  apply BitVec.eq_of_toNat_eq
  have := x.isLt
  simp [u]
theorem wrap_u (x : BitVec 32) : IntKind.u32.wrap (u x) = u x := by have := u_range x; rw [IntKind.wrap_u32]; omega
theorem xor_u (x y : BitVec 32) : bits .xor .u32 (u x) (u y) = u (x ^^^ y) := by
  have e : bits .xor .u32 (u x) (u y) = IntKind.u32.wrap (((BitVec.ofInt 32 (u x)) ^^^ (BitVec.ofInt 32 (u y))).toNat : Int) := rfl
  rw [e, of_u, of_u]
  exact wrap_u _
theorem and_u (x y : BitVec 32) : bits .and .u32 (u x) (u y) = u (x &&& y) := by
  have e : bits .and .u32 (u x) (u y) = IntKind.u32.wrap (((BitVec.ofInt 32 (u x)) &&& (BitVec.ofInt 32 (u y))).toNat : Int) := rfl
  rw [e, of_u, of_u]
  exact wrap_u _
theorem high_u (x : BitVec 32) : (bits .and .u32 (u x) 2147483648 != 0) = x.msb := by
  have e := and_u x 2147483648#32
  rw [show u 2147483648#32 = 2147483648 by decide] at e
  rw [e, BitVec.msb_eq_getLsbD_last]
  cases h : x.getLsbD (32 - 1) with
  | true =>
    have : (x &&& 2147483648#32).getLsbD 31 = true := by rw [BitVec.getLsbD_and, show x.getLsbD 31 = true from h]; decide
    have : x &&& 2147483648#32 ≠ 0#32 := fun e => by rw [e] at this; simp at this
    have : (x &&& 2147483648#32).toNat ≠ 0 := fun e => this (BitVec.eq_of_toNat_eq (by simpa using e))
    have h0 : u (x &&& 2147483648#32) ≠ 0 := by unfold u; omega
    simpa using h0
  | false =>
    have : x &&& 2147483648#32 = 0#32 := by
      apply BitVec.eq_of_getLsbD_eq
      intro i hi
      rw [BitVec.getLsbD_and]
      by_cases h31 : i = 31
      · rw [h31, show x.getLsbD 31 = false from h]; simp
      · have : (2147483648#32).getLsbD i = false := by
          rw [show 2147483648#32 = BitVec.twoPow 32 31 by decide, BitVec.getLsbD_twoPow]
          simp; omega
        rw [this]; simp
    rw [this]; simp [u]
theorem shl1_u (x : BitVec 32) : IntKind.u32.wrap (u x * 2) = u (x <<< 1) := by
  have := x.isLt
  rw [IntKind.wrap_u32]
  unfold u
  rw [BitVec.toNat_shiftLeft, Nat.shiftLeft_eq]
  omega
theorem shl8_u (x : BitVec 32) : IntKind.u32.wrap (u x * 256) = u (x <<< 8) := by
  have := x.isLt
  rw [IntKind.wrap_u32]
  unfold u
  rw [BitVec.toNat_shiftLeft, Nat.shiftLeft_eq]
  omega
def zeros : Array Value := Array.replicate 256 (.int .u32 0)
def tab (k : Nat) : Array Value := ((List.range 256).map fun i => if i < k then Value.int .u32 (u (row i)) else .int .u32 0).toArray
set_option maxRecDepth 100000
def rowsV : Array Value := ((List.range 256).map fun i => Value.int .u32 (u (row i))).toArray
theorem tab_zero : zeros = tab 0 := by kernel_rfl
theorem tab_full : tab 256 = rowsV := by
  unfold tab rowsV
  exact congrArg List.toArray (List.map_congr_left fun i hi => by rw [if_pos (List.mem_range.1 hi)])
theorem tab_set (k : Nat) (hk : k < 256) : (tab k).setIfInBounds k (.int .u32 (u (row k))) = tab (k + 1) := by
  apply Array.ext_getElem?
  intro i
  unfold tab
  rw [Array.getElem?_setIfInBounds]
  simp only [List.getElem?_toArray, List.getElem?_map, List.size_toArray, List.length_map, List.length_range]
  by_cases hi : k = i
  · subst hi
    rw [if_pos rfl, if_pos hk, List.getElem?_range hk]
    simp
  · rw [if_neg hi]
    by_cases h2 : i < 256
    · rw [List.getElem?_range h2]
      simp only [Option.map_some]
      by_cases h3 : i < k
      · rw [if_pos h3, if_pos (by omega)]
      · rw [if_neg h3, if_neg (by omega)]
    · rw [List.getElem?_eq_none (by simp; omega)]; rfl
set_option maxRecDepth 100000 in
set_option maxHeartbeats 800000 in
theorem rows_any (w : World) : Calls Tryz.prog 261 #[] w fun e w' => e = .returned (.agg rowsV) ∧ Below w.heap.size w w' := by
  have hz : ∀ V : World, (zeroValue 396).run Tryz.prog V = .ok (.agg zeros) V := fun V => by kernel_rfl
  have HB := Lib.hid (bk2 w 396 396 zeros zeros)
  go_enter Tryz.func261, Tryz.ntmps261
  gw0
  go_loopw [5] (fun i wr => ∃ k : Nat, k ≤ 256 ∧ i = .int .i64 k ∧ Hid (Bk w wr [(w.heap.size + 1, 396, tab k), (w.heap.size, 396, zeros)])) (fun i _ => 256 - (intOf i).toNat)
  case atStart => exact ⟨0, by omega, rfl, Lib.hid (by rw [← tab_zero]; exact HB.out)⟩
  case round =>
    obtain ⟨k, hk, rfl, hB⟩ := hrel
    by_cases hlt : k < 256
    · have t0 : decide ((k : Int) < 256) = true := by simp; omega
      have q1 : IntKind.u32.wrap (k : Int) = k := by rw [IntKind.wrap_u32]; omega
      have q2 : IntKind.u32.wrap ((k : Int) * 16777216) = u (BitVec.ofNat 32 (k * 16777216)) := by rw [IntKind.wrap_u32]; unfold u; rw [of_toNat _ (by omega)]; omega
      gw0
      obtain ⟨wo, rfl⟩ : ∃ wo : World, wo = wr := ⟨_, rfl⟩
      go_loop [3, 11] (fun x i => ∃ j : Nat, j ≤ 8 ∧ i = .int .i64 j ∧ x = .int .u32 (u (shN j (BitVec.ofNat 32 (k * 16777216))))) (fun _ i => 8 - (intOf i).toNat)
      case atStart => exact ⟨0, by omega, rfl, rfl⟩
      case round =>
        obtain ⟨j, hj, rfl, rfl⟩ := hrel
        by_cases hj8 : j < 8
        · have t1 : decide ((j : Int) < 8) = true := by simp; omega
          obtain ⟨X, hX⟩ : ∃ X, shN j (BitVec.ofNat 32 (k * 16777216)) = X := ⟨_, rfl⟩
          have HX := Lib.hid (show shN (j + 1) (BitVec.ofNat 32 (k * 16777216)) = sh X by rw [shN, hX])
          have h1 := high_u X
          have s1 := shl1_u X
          rw [hX]
          cases hm : X.msb with
          | true =>
            rw [hm] at h1
            have HS := Lib.hid (show u (sh X) = u ((X <<< 1) ^^^ poly) by unfold sh; rw [hm]; rfl)
            have x1 := xor_u (X <<< 1) poly
            rw [show u poly = 79764919 by decide] at x1
            clear hX hm
            gw0
            go_round
            case rel => exact ⟨j + 1, by omega, by go_num, by rw [HX.out, HS.out]⟩
            case measure => simp [intOf]; omega
          | false =>
            rw [hm] at h1
            have HS := Lib.hid (show u (sh X) = u (X <<< 1) by unfold sh; rw [hm]; simp)
            clear hX hm
            gw0
            go_round
            case rel => exact ⟨j + 1, by omega, by go_num, by rw [HX.out, HS.out]⟩
            case measure => simp [intOf]; omega
        · obtain rfl : j = 8 := by omega
          have t1 : decide (((8 : Nat) : Int) < 8) = false := by decide
          rw [show shN 8 (BitVec.ofNat 32 (k * 16777216)) = row k from rfl]
          have hc := Blk.cell (hB.out.nth 0 rfl) k (v := .int .u32 0) (by simp [tab, hlt])
          have hf := Blk.frozen (hB.out.nth 0 rfl) k
          have k0 : (0 : Int) ≤ (k : Int) := Int.natCast_nonneg _
          have k1 : (k : Int) < 256 := by omega
          gw0
          go_roundw
          case rel => exact ⟨k + 1, by omega, by go_num, Lib.hid (by
            have hb := hB.out
            have h0 := hb.nth 0 rfl
            have h1 := hb.nth 1 rfl
            refine ⟨hb.be.setCell (p := ⟨w.heap.size + 1, k, none⟩) (by simp) _, fun x hx => ?_⟩
            rcases List.mem_cons.1 hx with rfl | hx
            · have := Blk.set_ h0 k (.int .u32 (u (row k)))
              dsimp only at this
              rw [tab_set k hlt] at this
              exact this
            · rcases List.mem_cons.1 hx with rfl | hx
              · exact Blk.far h1 (by simp) _
              · cases hx)⟩
          case measure => simp [intOf]; omega
    · obtain rfl : k = 256 := by omega
      have t0 : decide (((256 : Nat) : Int) < 256) = false := by decide
      have hb := hB.out
      rw [tab_full] at hb
      have h0 := hb.nth 0 rfl
      have h1 := hb.nth 1 rfl
      have HB1 := Lib.hid hb.be
      have hA : rowsV.all (·.oneCell') = true := by kernel_rfl
      have HA := Lib.hid hA
      clear hA hb hB HB
      go_wp2_with (first
        | (refine wpList_load_row rfl 396 _ rfl (w.heap.size + 1) rfl 396 rowsV (0, 0) _ h0 Tryz.underlying396 rfl (by kernel_rfl) ?_)
        | (refine wpList_store_blk (g := w.heap.size) (T := 396) (cs := zeros) (cs' := rowsV) rfl 396 _ _ rfl rfl rfl h1 (by kernel_rfl) (by kernel_rfl) (by kernel_rfl) HA.out ?_; intro W9 hW9 hg9 hz9))
      exact bodyPost_ret (v := .agg rowsV) (results_cell_row rfl _ _ w.heap.size 396 rowsV (0, 0) _ rfl hW9 Tryz.underlying396 rfl (by kernel_rfl)) rfl ⟨rfl, HB1.out.trans (below_of_only hg9 HB1.out.size (fun k hk => by injection hk with hk; omega))⟩
end Go.Proofs.YtbiiehobfnbloaaGreatDoor.CrA
namespace Go.Proofs.YtbiiehobfnbloaaGreatDoor.CrB
open Go Go.RowKit Q Mem Rg Ap CrP CrA St
def enS (s : ByteArray) : List Value := [.string s]
theorem enS_len (s : ByteArray) : (enS s).length = 1 := rfl
def cat (L : List ByteArray) : List UInt8 := L.flatMap bl
theorem cat_snoc {L : List ByteArray} {k : Nat} {s : ByteArray} (h : L[k]? = some s) : cat (L.take (k + 1)) = cat (L.take k) ++ bl s := by rw [List.take_add_one, h]; simp [cat]
theorem take_snoc {l : List UInt8} {k : Nat} {b : UInt8} (h : l[k]? = some b) : l.take (k + 1) = l.take k ++ [b] := by rw [List.take_add_one, h]; rfl
theorem hi_u (x : BitVec 32) : IntKind.u8.wrap (u x / 16777216) = ((hi x).toNat : Int) := by
  have := x.isLt
  rw [IntKind.wrap_u8, hi_toNat]; unfold u; omega
theorem xor_u8 (a b : UInt8) : bits .xor .u8 (a.toNat : Int) (b.toNat : Int) = ((a.toNat ^^^ b.toNat : Nat) : Int) := by
  have ha := UInt8.toNat_lt a
  have hb := UInt8.toNat_lt b
  have e : bits .xor .u8 (a.toNat : Int) (b.toNat : Int) = IntKind.u8.wrap (((BitVec.ofInt 8 (a.toNat : Int)) ^^^ (BitVec.ofInt 8 (b.toNat : Int))).toNat : Int) := rfl
  have h1 : ∀ n : Nat, n < 256 → (BitVec.ofInt 8 (n : Int)).toNat = n := fun n hn => by simp; omega
  rw [e, BitVec.toNat_xor, h1 _ ha, h1 _ hb, IntKind.wrap_u8]
  have := xor_lt ha hb
  omega
theorem rowsV_at (i : Nat) (h : i < 256) : rowsV[i]? = some (.int .u32 (u (row i))) := by simp [rowsV, h]
set_option maxRecDepth 100000
set_option maxHeartbeats 800000 in
theorem more_any (x : BitVec 32) (a : Option Addr) (n c : Nat) (L : List ByteArray) (w : World) (hn : L.length = n) (hl : n ≤ 100000) (hL : Seq enS 1 w a L) (hs : ∀ s ∈ L, s.size ≤ 1099511627776) :
    Calls Tryz.prog 248 #[.int .u32 (u x), .slice a n c] w fun e w' => e = .returned (.int .u32 (u (crc x (cat L)))) ∧ Below w.heap.size w w' := by
  have hz : ∀ V : World, (zeroValue 396).run Tryz.prog V = .ok (.agg zeros) V := fun V => by kernel_rfl
  have HL := Lib.hid hL
  have HS := Lib.hid hs
  have HA := Lib.hid (show rowsV.all (·.oneCell') = true by kernel_rfl)
  have k1 := fun V => rows_any V
  clear hL hs
  go_enter Tryz.func248, Tryz.ntmps248
  go_wp2_with (first
    | (refine wpList_store_blk (g := W1.heap.size) (T := 396) (cs := zeros) (cs' := rowsV) rfl 396 _ _ rfl rfl rfl (Blk.new W1 396 zeros) (by kernel_rfl) (by kernel_rfl) (by kernel_rfl) HA.out ?_; intro W9 hW9 hg9 hz9)
    | ((with_reducible refine (k1 _).mono ?_); rintro e1 W1 ⟨rfl, hb1⟩))
  have hbE : Below w.heap.size w W9 := (hb1.alloc hb1.size _).trans (below_of_only hg9 (by have := hb1.size; simp; omega) (fun k hk => by injection hk with hk; have := hb1.size; omega))
  have HBE := Lib.hid hbE
  have HL9 := Lib.hid (HL.out.below (Nat.le_refl _) hbE)
  have HW := Lib.hid hW9
  clear hz HA k1 hb1 hW9 hg9 hz9 hbE HL
  go_loop [0, 12] (fun v i => ∃ k : Nat, k ≤ n ∧ i = .int .i64 k ∧ v = .int .u32 (u (crc x (cat (L.take k))))) (fun _ i => n - (intOf i).toNat)
  case atStart => exact ⟨0, by omega, rfl, rfl⟩
  case round =>
    obtain ⟨k, hk, rfl, rfl⟩ := hrel
    by_cases hkn : k < n
    · have t0 : decide ((k : Int) < (n : Int)) = true := by simp; omega
      obtain ⟨s, hsk⟩ : ∃ s, L[k]? = some s := ⟨_, List.getElem?_eq_getElem (by omega)⟩
      obtain ⟨b0, o0, rfl, hlt, hc⟩ := HL9.out k s hsk
      have c0 : W9.cell? ⟨b0, o0 + k, none⟩ = some (.string s) := hc 0 _ rfl
      have hsz := HS.out s (List.mem_of_getElem? hsk)
      have HC := Lib.hid (cat_snoc hsk)
      have k0 : (0 : Int) ≤ (k : Int) := Int.natCast_nonneg _
      have k1 : (k : Int) < (n : Int) := by omega
      obtain ⟨X, hX⟩ : ∃ X, crc x (cat (L.take k)) = X := ⟨_, rfl⟩
      have HX := Lib.hid (show crc x (cat (L.take (k + 1))) = crc X (bl s) by rw [HC.out, crc_app, hX])
      rw [hX]
      clear hX HC hc hsk hlt
      gw0
      go_loop [0, 18] (fun v i => ∃ j : Nat, j ≤ s.size ∧ i = .int .i64 j ∧ v = .int .u32 (u (crc X ((bl s).take j)))) (fun _ i => s.size - (intOf i).toNat)
      case atStart => exact ⟨0, by omega, rfl, rfl⟩
      case round =>
        obtain ⟨j, hj, rfl, rfl⟩ := hrel
        by_cases hjs : j < s.size
        · have t1 : decide ((j : Int) < (s.size : Int)) = true := by simp; omega
          obtain ⟨b, hb, hat⟩ := byte_at s j hjs
          have ix : ∀ V : World, (Instr.index 9 (.string s) (.int .i64 (j : Int))).run Tryz.prog V = .ok (.int .u8 (b.toNat : Int)) V := fun V => by rw [idx_at s j hjs V, hat]
          obtain ⟨Y, hY⟩ : ∃ Y, crc X ((bl s).take j) = Y := ⟨_, rfl⟩
          have HY := Lib.hid (show crc X ((bl s).take (j + 1)) = bs Y b by rw [take_snoc hb, crc_app, hY]; rfl)
          rw [hY]
          have q1 := hi_u Y
          have q2 := xor_u8 (hi Y) b
          have q3 := shl8_u Y
          obtain ⟨r, hr⟩ : ∃ r, (hi Y).toNat ^^^ b.toNat = r := ⟨_, rfl⟩
          have hr2 : r < 256 := by rw [← hr]; exact xor_lt (UInt8.toNat_lt _) (UInt8.toNat_lt _)
          rw [hr] at q2
          have q4 := xor_u (Y <<< 8) (row r)
          have e4 : (Y <<< 8) ^^^ row r = bs Y b := by rw [← hr]; exact table_bs Y b
          rw [e4] at q4
          have c1 := Blk.cell HW.out r (rowsV_at r hr2)
          have r0 : (0 : Int) ≤ (r : Int) := Int.natCast_nonneg _
          have r1 : (r : Int) < 256 := by omega
          clear hb hat hY hr hr2 e4
          gw0
          go_round
          case rel => exact ⟨j + 1, by omega, by go_num, by rw [HY.out]⟩
          case measure => simp [intOf]; omega
        · obtain rfl : j = s.size := by omega
          have t1 : decide ((s.size : Int) < (s.size : Int)) = false := by simp
          rw [show (bl s).take s.size = bl s by rw [← bl_len, List.take_length]]
          gw0
          go_round
          case rel => exact ⟨k + 1, by omega, by go_num, by rw [HX.out]⟩
          case measure => simp [intOf]; omega
    · obtain rfl : k = n := by omega
      have t0 : decide ((k : Int) < (k : Int)) = false := by simp
      rw [show L.take k = L by rw [← hn, List.take_length]]
      gw0
      go_ret
      exact ⟨rfl, HBE.out⟩
theorem sum_any (a : Option Addr) (n c : Nat) (L : List ByteArray) (w : World) (hn : L.length = n) (hl : n ≤ 100000) (hL : Seq enS 1 w a L) (hs : ∀ s ∈ L, s.size ≤ 1099511627776) :
    Calls Tryz.prog 234 #[.slice a n c] w fun e w' => e = .returned (.int .u32 (u (crc 4294967295#32 (cat L)))) ∧ Below w.heap.size w w' := by
  have k1 := more_any 4294967295#32 a n c L w hn hl hL hs
  rw [show u 4294967295#32 = 4294967295 by decide] at k1
  clear hL hs hl
  go_enter Tryz.func234, Tryz.ntmps234
  gw0
  (with_reducible refine (k1).mono ?_); rintro e1 W1 ⟨rfl, hb1⟩
  gw0
  go_ret
  exact ⟨rfl, hb1⟩
end Go.Proofs.YtbiiehobfnbloaaGreatDoor.CrB
namespace Go.Proofs.YtbiiehobfnbloaaGreatDoor.BiP
def nb (b : Bool) : Nat := if b then 1 else 0
def byteB (B : List Bool) (i : Nat) : Nat := nb (B.getD (8 * i) false) * 128 + nb (B.getD (8 * i + 1) false) * 64 + nb (B.getD (8 * i + 2) false) * 32 + nb (B.getD (8 * i + 3) false) * 16 + nb (B.getD (8 * i + 4) false) * 8 + nb (B.getD (8 * i + 5) false) * 4 + nb (B.getD (8 * i + 6) false) * 2 + nb (B.getD (8 * i + 7) false)
def pkN (B : List Bool) (n : Nat) : List UInt8 := (List.range n).map fun i => UInt8.ofNat (byteB B i)
def pk (B : List Bool) : List UInt8 := pkN B ((B.length + 7) / 8)
end Go.Proofs.YtbiiehobfnbloaaGreatDoor.BiP
namespace Go.Proofs.YtbiiehobfnbloaaGreatDoor.BiW
open Go Go.RowKit Q Mem Rg Ap St BiP
def u8v (b : UInt8) : Value := .int .u8 (b.toNat : Int)
def u8s (l : List UInt8) : List Value := l.map u8v
structure OutV (w : World) (g B : Nat) (v : Value) (bits : List Bool) : Prop where
  blk : Blk w g 147 #[v, .int .i64 (bits.length : Int)]
  own : w.ownsRow B 5 1 v (pk bits).length (u8s (pk bits))
  gB : g < B
  bw : B ≤ w.heap.size
structure Grow (g : Nat) (v : Value) (w : World) (v' : Value) (w' : World) : Prop where
  os : w'.os = w.os
  tape : w'.tape = w.tape
  output : w'.output = w.output
  size : w.heap.size ≤ w'.heap.size
  block : ∀ k, k < w.heap.size → k ≠ g → some k ≠ v.ownBlock → w'.heap[k]? = w.heap[k]?
  row : v'.ownBlock = v.ownBlock ∨ ∃ r, v'.ownBlock = some r ∧ w.heap.size ≤ r
theorem Grow.refl (g : Nat) (v : Value) (w : World) : Grow g v w v w := ⟨rfl, rfl, rfl, Nat.le_refl _, fun _ _ _ _ => rfl, Or.inl rfl⟩
theorem Grow.trans {g : Nat} {v v1 v2 : Value} {w w1 w2 : World} (h : Grow g v w v1 w1) (k : Grow g v1 w1 v2 w2) : Grow g v w v2 w2 := by
  refine ⟨k.os.trans h.os, k.tape.trans h.tape, k.output.trans h.output, Nat.le_trans h.size k.size, fun i hi hg hr => ?_, ?_⟩
  · refine (k.block i (Nat.lt_of_lt_of_le hi h.size) hg (fun e => ?_)).trans (h.block i hi hg hr)
    rcases h.row with e1 | ⟨r, e1, hl⟩
    · exact hr (by rw [← e1]; exact e)
    · rw [e1] at e; injection e with e; omega
  · rcases k.row with e2 | ⟨r, e2, hl⟩
    · rcases h.row with e1 | ⟨r, e1, hl⟩
      · exact Or.inl (e2.trans e1)
      · exact Or.inr ⟨r, e2.trans e1, hl⟩
    · exact Or.inr ⟨r, e2, Nat.le_trans h.size hl⟩
theorem Grow.below {g : Nat} {v v' : Value} {w w' : World} {B : Nat} (h : Grow g v w v' w') (hg : B ≤ g) (hr : ∀ r, v.ownBlock = some r → B ≤ r) (hB : B ≤ w.heap.size) : Below B w w' :=
  ⟨h.os, h.tape, h.output, h.size, fun k hk => h.block k (by omega) (by omega) (fun e => by have := hr k e.symm; omega)⟩
theorem OutV.row {w : World} {g B : Nat} {v : Value} {bits : List Bool} (h : OutV w g B v bits) : ∀ r, v.ownBlock = some r → B ≤ r ∧ r < w.heap.size := fun r e => h.own.lt r e
theorem elemB : Elem Tryz.prog 145 5 1 1 := elem_of Tryz.underlying145 (z := .int .u8 0) (by kernel_rfl) rfl (by decide)
section
variable {P : Program} {ops : Array Oper} {rest : List Oper} {o : Oper} {a : Act} {w : World} {Q : Exit → Act → World → Prop}
end
set_option maxRecDepth 100000
end Go.Proofs.YtbiiehobfnbloaaGreatDoor.BiW
namespace Go.Proofs.YtbiiehobfnbloaaGreatDoor.Rf
open Go Go.RowKit Q Mem
end Go.Proofs.YtbiiehobfnbloaaGreatDoor.Rf
namespace Go.Proofs.YtbiiehobfnbloaaGreatDoor.BiF
open Go Go.RowKit Go.Shelf Q Mem Rg Ap St BiP BiW Rf
attribute [local go_sem] Oper.semAt_some
structure TwoB (x n : Nat) (W W' : World) : Prop where
  x : W'.heap[x]? = W.heap[x]?
  n : W'.heap[n]? = W.heap[n]?
  size : W.heap.size ≤ W'.heap.size
theorem TwoB.trans {x n : Nat} {A B C : World} (h : TwoB x n A B) (k : TwoB x n B C) : TwoB x n A C := ⟨k.x.trans h.x, k.n.trans h.n, Nat.le_trans h.size k.size⟩
theorem wpIn_gen {F : Fence} {n : Nat} {P : Program} {c : Code} {Q : Exit → Act → World → Prop} {a : Act} {w : World} (G : World → Prop) (h0 : G w) (h : ∀ W, G W → c.wpIn F n P Q a W) : c.wpIn F n P Q a w := h w h0
end Go.Proofs.YtbiiehobfnbloaaGreatDoor.BiF
namespace Go.Proofs.YtbiiehobfnbloaaGreatDoor.BiA
open Go Go.RowKit Q Mem Rg St
set_option maxRecDepth 100000
end Go.Proofs.YtbiiehobfnbloaaGreatDoor.BiA
namespace Go.Proofs.YtbiiehobfnbloaaGreatDoor.BiG
open Go Go.RowKit Q Mem Rg Ap St BiP BiW BiF BiA CrB
set_option maxRecDepth 100000
def rowB (l : List UInt8) (m : Nat) : Array Value := (u8s l ++ List.replicate m (Value.int .u8 0)).toArray
theorem rowB_set (l : List UInt8) (m : Nat) (c : UInt8) : (rowB l (m + 1)).setIfInBounds l.length (u8v c) = rowB (l ++ [c]) m := by
  unfold rowB
  rw [List.setIfInBounds_toArray]
  congr 1
  rw [List.set_append_right _ _ (by simp [u8s]), show l.length - (u8s l).length = 0 by simp [u8s]]
  simp [u8s, List.replicate_succ]
theorem rowB_at (l : List UInt8) (m : Nat) : (rowB l (m + 1))[l.length]? = some (Value.int .u8 0) := by
  unfold rowB
  rw [List.getElem?_toArray, List.getElem?_append_right (by simp [u8s]), show l.length - (u8s l).length = 0 by simp [u8s]]
  simp [List.replicate_succ]
theorem mk_bytes (n : Nat) (hn : n ≤ 1099511627776) (V : World) : (Instr.makeSlice 145 (.int .i64 (n : Int)) (.int .i64 (n : Int))).run Tryz.prog V = .ok (.slice (some ⟨V.heap.size, 0, none⟩) n n) (V.alloc (.cells (rowB [] n) 5)) := by
  obtain ⟨i, z, hi, hz, hsz, hby, hzs⟩ := elemB.i
  have hz2 : z = .int .u8 0 := by
    have : (Tryz.prog.info? 5).bind (·.zero) = some (.int .u8 0) := by kernel_rfl
    rw [hi] at this
    simp [hz] at this
    exact this
  have := run_make (P := Tryz.prog) V 145 5 i z Tryz.underlying145 hi hz .i64 .i64 n n (by omega) (Int.le_refl _) (by rw [hby]; omega) (by omega)
  rw [this]
  congr 2
  rw [hsz, Nat.mul_one, hz2]
  congr 1
  have e := toList_madeCells_one (.int .u8 0) n
  apply Array.toList_inj.1
  rw [show (Value.int IntKind.u8 0).cells = #[.int .u8 0] from rfl, Int.toNat_natCast, e]
  simp [rowB, u8s]
theorem conv_row {w : World} {g n : Nat} {l : List UInt8} (h : Blk w g 5 (rowB l 0)) (hl : l.length = n) (c : Nat) :
    (convert 145 9 (.slice (some ⟨g, 0, none⟩) n c)).run Tryz.prog w = .ok (.string (str l)) w := by
  subst hl
  exact run_convert_bytes_back (P := Tryz.prog) w 145 9 5 ⟨g, 0, none⟩ c l Tryz.underlying145 Tryz.underlying5 Tryz.underlying9 (fun j hj => by
    have hadd : (⟨g, 0, none⟩ : Addr).add j = ⟨g, j, none⟩ := by unfold Addr.add; split <;> simp_all
    rw [hadd]
    exact Blk.cell h j (by simp [rowB, u8s, u8v, hj]))
end Go.Proofs.YtbiiehobfnbloaaGreatDoor.BiG
namespace Go.Proofs.YtbiiehobfnbloaaGreatDoor.BiH
open Go Go.RowKit Q Mem Rg Ap St BiP BiA BiG
def at0 (s : ByteArray) (i : Nat) : Nat := (s.data[i]?.getD 0).toNat
theorem at0_lt (s : ByteArray) (i : Nat) : at0 s i < 256 := UInt8.toNat_lt _
theorem at0_at (s : ByteArray) (i : Nat) : at' s i = (at0 s i : Int) := rfl
set_option maxRecDepth 100000
end Go.Proofs.YtbiiehobfnbloaaGreatDoor.BiH
namespace Go.Proofs.YtbiiehobfnbloaaGreatDoor.CrC
open Go Go.RowKit Q Mem Rg Ap CrP CrA CrB St
def sumL (l : List UInt8) : BitVec 32 := crc 4294967295#32 l
theorem sum_one (s : ByteArray) (w : World) (hs : s.size ≤ 1099511627776) (g : Nat) (hg : g = w.heap.size) :
    Calls Tryz.prog 234 #[.slice (some ⟨g, 0, none⟩) 1 1] (w.alloc (.cells #[.string s] 9)) fun e w' => e = .returned (.int .u32 (u (sumL (bl s)))) ∧ Below w.heap.size w w' := by
  subst hg
  have hq : Seq enS 1 (w.alloc (.cells #[.string s] 9)) (some ⟨w.heap.size, 0, none⟩) [s] := seq_blk enS_len (Blk.new w 9 #[.string s]) rfl
  refine (sum_any _ 1 1 [s] _ rfl (by decide) hq (by simpa using hs)).mono fun e w' ⟨h1, h2⟩ => ⟨?_, ((Below.refl _ _).alloc (Nat.le_refl _) _).trans (h2.mono (by simp))⟩
  rw [h1]; simp [sumL, cat]
set_option maxRecDepth 100000
end Go.Proofs.YtbiiehobfnbloaaGreatDoor.CrC
namespace Go.Proofs.YtbiiehobfnbloaaGreatDoor.CrD
open Go Go.RowKit Q Mem Rg Ap CrP CrA CrB CrC St
set_option maxRecDepth 100000
end Go.Proofs.YtbiiehobfnbloaaGreatDoor.CrD
