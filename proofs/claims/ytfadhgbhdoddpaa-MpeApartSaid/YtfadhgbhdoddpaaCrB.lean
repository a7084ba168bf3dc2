/- crc, walked: more, Sum. -/
import Derived.Test.YtfadhgbhdoddpaaCrA
import Derived.Test.YtfadhgbhdoddpaaSt
import Derived.Test.YtfadhgbhdoddpaaAp
namespace Go.Proofs.Ytfadhgbhdoddpaa.CrB
open Go Go.RowKit Go.Proofs.Ytfadhgbhdoddpaa.Q Go.Proofs.Ytfadhgbhdoddpaa.Mem Go.Proofs.Ytfadhgbhdoddpaa.Rg Go.Proofs.Ytfadhgbhdoddpaa.Ap Go.Proofs.Ytfadhgbhdoddpaa.CrP Go.Proofs.Ytfadhgbhdoddpaa.CrA Go.Proofs.Ytfadhgbhdoddpaa.St

/-- a string's cell -/
def enS (s : ByteArray) : List Value := [.string s]
theorem enS_len (s : ByteArray) : (enS s).length = 1 := rfl
/-- the bytes of strings, one behind the other -/
def cat (L : List ByteArray) : List UInt8 := L.flatMap bl
theorem cat_snoc {L : List ByteArray} {k : Nat} {s : ByteArray} (h : L[k]? = some s) : cat (L.take (k + 1)) = cat (L.take k) ++ bl s := by rw [List.take_add_one, h]; simp [cat]
theorem take_snoc {l : List UInt8} {k : Nat} {b : UInt8} (h : l[k]? = some b) : l.take (k + 1) = l.take k ++ [b] := by rw [List.take_add_one, h]; rfl
theorem hi_u (x : BitVec 32) : IntKind.u8.wrap (u x / 16777216) = ((hi x).toNat : Int) := by
  have := x.isLt
  rw [IntKind.wrap_u8, hi_toNat]; unfold u; omega
theorem xor_u8 (a b : UInt8) : bits .xor .u8 (a.toNat : Int) (b.toNat : Int) = ((a.toNat ^^^ b.toNat : Nat) : Int) := by
  have ha := UInt8.toNat_lt a
  have hb := UInt8.toNat_lt b
  have e : bits .xor .u8 (a.toNat : Int) (b.toNat : Int) = IntKind.u8.wrap (((BitVec.ofInt 8 (a.toNat : Int)) ^^^ (BitVec.ofInt 8 (b.toNat : Int))).toNat : Int) := rfl
  have h1 : ∀ n : Nat, n < 256 → (BitVec.ofInt 8 (n : Int)).toNat = n := fun n hn => by simp; omega
  rw [e, BitVec.toNat_xor, h1 _ ha, h1 _ hb, IntKind.wrap_u8]
  have := xor_lt ha hb
  omega
theorem rowsV_at (i : Nat) (h : i < 256) : rowsV[i]? = some (.int .u32 (u (row i))) := by simp [rowsV, h]
set_option maxRecDepth 100000
set_option maxHeartbeats 800000 in
theorem more_any (x : BitVec 32) (a : Option Addr) (n c : Nat) (L : List ByteArray) (w : World) (hn : L.length = n) (hl : n ≤ 100000) (hL : Seq enS 1 w a L) (hs : ∀ s ∈ L, s.size ≤ 1099511627776) :
    Calls Try.prog 71 #[.int .u32 (u x), .slice a n c] w fun e w' => e = .returned (.int .u32 (u (crc x (cat L)))) ∧ Below w.heap.size w w' := by
  have hz : ∀ V : World, (zeroValue 132).run Try.prog V = .ok (.agg zeros) V := fun V => by kernel_rfl
  have HL := Lib.hid hL
  have HS := Lib.hid hs
  have HA := Lib.hid (show rowsV.all (·.oneCell') = true by kernel_rfl)
  have k1 := fun V => rows_any V
  clear hL hs
  go_enter Try.func71, Try.ntmps71
  go_wp2_with (first
    | (refine wpList_store_blk (g := W1.heap.size) (T := 132) (cs := zeros) (cs' := rowsV) rfl 132 _ _ rfl rfl rfl (Blk.new W1 132 zeros) (by kernel_rfl) (by kernel_rfl) (by kernel_rfl) HA.out ?_; intro W9 hW9 hg9 hz9)
    | ((with_reducible refine (k1 _).mono ?_); rintro e1 W1 ⟨rfl, hb1⟩))
  have hbE : Below w.heap.size w W9 := (hb1.alloc hb1.size _).trans (below_of_only hg9 (by have := hb1.size; simp; omega) (fun k hk => by injection hk with hk; have := hb1.size; omega))
  have HBE := Lib.hid hbE
  have HL9 := Lib.hid (HL.out.below (Nat.le_refl _) hbE)
  have HW := Lib.hid hW9
  clear hz HA k1 hb1 hW9 hg9 hz9 hbE HL
  go_loop [0, 12] (fun v i => ∃ k : Nat, k ≤ n ∧ i = .int .i64 k ∧ v = .int .u32 (u (crc x (cat (L.take k))))) (fun _ i => n - (intOf i).toNat)
  case atStart => exact ⟨0, by omega, rfl, rfl⟩
  case round =>
    obtain ⟨k, hk, rfl, rfl⟩ := hrel
    by_cases hkn : k < n
    · have t0 : decide ((k : Int) < (n : Int)) = true := by simp; omega
      obtain ⟨s, hsk⟩ : ∃ s, L[k]? = some s := ⟨_, List.getElem?_eq_getElem (by omega)⟩
      obtain ⟨b0, o0, rfl, hlt, hc⟩ := HL9.out k s hsk
      have c0 : W9.cell? ⟨b0, o0 + k, none⟩ = some (.string s) := hc 0 _ rfl
      have hsz := HS.out s (List.mem_of_getElem? hsk)
      have HC := Lib.hid (cat_snoc hsk)
      have k0 : (0 : Int) ≤ (k : Int) := Int.natCast_nonneg _
      have k1 : (k : Int) < (n : Int) := by omega
      obtain ⟨X, hX⟩ : ∃ X, crc x (cat (L.take k)) = X := ⟨_, rfl⟩
      have HX := Lib.hid (show crc x (cat (L.take (k + 1))) = crc X (bl s) by rw [HC.out, crc_app, hX])
      rw [hX]
      clear hX HC hc hsk hlt
      go_wp2_with fail
      go_loop [0, 18] (fun v i => ∃ j : Nat, j ≤ s.size ∧ i = .int .i64 j ∧ v = .int .u32 (u (crc X ((bl s).take j)))) (fun _ i => s.size - (intOf i).toNat)
      case atStart => exact ⟨0, by omega, rfl, rfl⟩
      case round =>
        obtain ⟨j, hj, rfl, rfl⟩ := hrel
        by_cases hjs : j < s.size
        · have t1 : decide ((j : Int) < (s.size : Int)) = true := by simp; omega
          obtain ⟨b, hb, hat⟩ := byte_at s j hjs
          have ix : ∀ V : World, (Instr.index 9 (.string s) (.int .i64 (j : Int))).run Try.prog V = .ok (.int .u8 (b.toNat : Int)) V := fun V => by rw [idx_at s j hjs V, hat]
          obtain ⟨Y, hY⟩ : ∃ Y, crc X ((bl s).take j) = Y := ⟨_, rfl⟩
          have HY := Lib.hid (show crc X ((bl s).take (j + 1)) = bs Y b by rw [take_snoc hb, crc_app, hY]; rfl)
          rw [hY]
          have q1 := hi_u Y
          have q2 := xor_u8 (hi Y) b
          have q3 := shl8_u Y
          obtain ⟨r, hr⟩ : ∃ r, (hi Y).toNat ^^^ b.toNat = r := ⟨_, rfl⟩
          have hr2 : r < 256 := by rw [← hr]; exact xor_lt (UInt8.toNat_lt _) (UInt8.toNat_lt _)
          rw [hr] at q2
          have q4 := xor_u (Y <<< 8) (row r)
          have e4 : (Y <<< 8) ^^^ row r = bs Y b := by rw [← hr]; exact table_bs Y b
          rw [e4] at q4
          have c1 := Blk.cell HW.out r (rowsV_at r hr2)
          have r0 : (0 : Int) ≤ (r : Int) := Int.natCast_nonneg _
          have r1 : (r : Int) < 256 := by omega
          clear hb hat hY hr hr2 e4
          go_wp2_with fail
          go_round
          case rel => exact ⟨j + 1, by omega, by go_num, by rw [HY.out]⟩
          case measure => simp [intOf]; omega
        · obtain rfl : j = s.size := by omega
          have t1 : decide ((s.size : Int) < (s.size : Int)) = false := by simp
          rw [show (bl s).take s.size = bl s by rw [← bl_len, List.take_length]]
          go_wp2_with fail
          go_round
          case rel => exact ⟨k + 1, by omega, by go_num, by rw [HX.out]⟩
          case measure => simp [intOf]; omega
    · obtain rfl : k = n := by omega
      have t0 : decide ((k : Int) < (k : Int)) = false := by simp
      rw [show L.take k = L by rw [← hn, List.take_length]]
      go_wp2_with fail
      go_ret
      exact ⟨rfl, HBE.out⟩
theorem sum_any (a : Option Addr) (n c : Nat) (L : List ByteArray) (w : World) (hn : L.length = n) (hl : n ≤ 100000) (hL : Seq enS 1 w a L) (hs : ∀ s ∈ L, s.size ≤ 1099511627776) :
    Calls Try.prog 62 #[.slice a n c] w fun e w' => e = .returned (.int .u32 (u (crc 4294967295#32 (cat L)))) ∧ Below w.heap.size w w' := by
  have k1 := more_any 4294967295#32 a n c L w hn hl hL hs
  rw [show u 4294967295#32 = 4294967295 by decide] at k1
  clear hL hs hl
  go_enter Try.func62, Try.ntmps62
  go_wp2_with fail
  (with_reducible refine (k1).mono ?_); rintro e1 W1 ⟨rfl, hb1⟩
  go_wp2_with fail
  go_ret
  exact ⟨rfl, hb1⟩
end Go.Proofs.Ytfadhgbhdoddpaa.CrB
