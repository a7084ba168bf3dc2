/- bits, walked: a writer's Text, String; a reader's Read, Text. -/
import Derived.Test.YtfadhgbhdoddpaaBiF
import Derived.Test.YtfadhgbhdoddpaaBiA
import Derived.Test.YtfadhgbhdoddpaaCrB
import Derived.Laws.OwnMore
namespace Go.Proofs.Ytfadhgbhdoddpaa.BiG
open Go Go.RowKit Go.Proofs.Ytfadhgbhdoddpaa.Q Go.Proofs.Ytfadhgbhdoddpaa.Mem Go.Proofs.Ytfadhgbhdoddpaa.Rg Go.Proofs.Ytfadhgbhdoddpaa.Ap Go.Proofs.Ytfadhgbhdoddpaa.St Go.Proofs.Ytfadhgbhdoddpaa.BiP Go.Proofs.Ytfadhgbhdoddpaa.BiW Go.Proofs.Ytfadhgbhdoddpaa.BiF Go.Proofs.Ytfadhgbhdoddpaa.BiA Go.Proofs.Ytfadhgbhdoddpaa.CrB

set_option maxRecDepth 100000
set_option maxHeartbeats 800000 in
/-- Text of one string -/
theorem otext_one (g B : Nat) (v : Value) (bits : List Bool) (s : ByteArray) (w : World) (b : Nat) (hb : g ≠ b) (hO : OutV w g B v bits) (hc : w.cell? ⟨b, 0, none⟩ = some (.string s)) (hvb : ∀ r, v.ownBlock = some r → r ≠ b) (hl : bits.length + 8 * s.size ≤ 8796093022208) :
    Calls Try.prog 41 #[.pointer (some ⟨g, 0, none⟩), .slice (some ⟨b, 0, none⟩) 1 1] w fun e w' => e = .returned (.tuple #[]) ∧ ∃ v', OutV w' g B v' (bits ++ bitsL (bl s)) ∧ Grow g v w v' w' := by
  have HO := Lib.hid hO
  have HN := Lib.hid (And.intro hb hvb)
  have HC := Lib.hid hc
  clear hO hb hvb
  go_enter Try.func41, Try.ntmps41
  go_wp2_with fail
  go_loopw [9] (fun i wr => (i = .int .i64 0 ∧ w = wr) ∨ (i = .int .i64 1 ∧ Hid (∃ v', OutV wr g B v' (bits ++ bitsL (bl s)) ∧ Grow g v w v' wr))) (fun i _ => 1 - (intOf i).toNat)
  case atStart => exact Or.inl ⟨rfl, rfl⟩
  case round =>
    rcases hrel with ⟨rfl, rfl⟩ | ⟨rfl, hend⟩
    · go_wp2_with fail
      go_loopw [15] (fun i wr => ∃ (k : Nat) (v' : Value), k ≤ s.size ∧ i = .int .i64 k ∧ Hid (OutV wr g B v' (bits ++ bitsL ((bl s).take k)) ∧ Grow g v w v' wr)) (fun i _ => s.size - (intOf i).toNat)
      case atStart => exact ⟨0, v, by omega, rfl, Lib.hid ⟨by simpa [bitsL] using HO.out, Grow.refl _ _ _⟩⟩
      case round =>
        obtain ⟨k, v', hk, rfl, hI⟩ := hrel
        by_cases hks : k < s.size
        · have t1 : decide ((k : Int) < (s.size : Int)) = true := by simp; omega
          obtain ⟨c, hcb, hat⟩ := byte_at s k hks
          have ix : ∀ V : World, (Instr.index 9 (.string s) (.int .i64 (k : Int))).run Try.prog V = .ok (.int .u8 (c.toNat : Int)) V := fun V => by rw [idx_at s k hks V, hat]
          have hlt := UInt8.toNat_lt c
          have HT := Lib.hid (show bits ++ bitsL ((bl s).take (k + 1)) = (bits ++ bitsL ((bl s).take k)) ++ bitsOf c.toNat 8 by rw [take_snoc hcb, bitsL_snoc, List.append_assoc])
          have kp := put_any g B v' (bits ++ bitsL ((bl s).take k)) c.toNat 8 wr hI.out.1 (by rw [List.length_append, bitsL_len, List.length_take]; omega) (by omega) (by decide)
          rw [show ((8 : Nat) : Int) = 8 from rfl] at kp
          have q1 : IntKind.u64.wrap (c.toNat : Int) = (c.toNat : Int) := by simp [IntKind.wrap, IntKind.bits, IntKind.signed]; omega
          obtain ⟨m, hm⟩ : ∃ m, c.toNat = m := ⟨_, rfl⟩
          rw [hm] at ix kp q1 HT
          have HG := Lib.hid hI.out.2
          clear hcb hat hlt hI hm
          go_wp2_with fail
          (with_reducible refine (kp).mono ?_); rintro e1 W1 ⟨rfl, v2, hO2, hG2⟩
          have HI := Lib.hid (show OutV W1 g B v2 (bits ++ bitsL ((bl s).take (k + 1))) ∧ Grow g v w v2 W1 from ⟨by rw [HT.out]; exact hO2, HG.out.trans hG2⟩)
          clear kp hO2 hG2
          go_wp2_with fail
          go_roundw
          case rel => exact ⟨k + 1, v2, by omega, by go_num, HI⟩
          case measure => simp [intOf]; omega
        · obtain rfl : k = s.size := by omega
          have t1 : decide ((s.size : Int) < (s.size : Int)) = false := by simp
          rw [show (bl s).take s.size = bl s by rw [← bl_len, List.take_length]] at hI
          go_wp2_with fail
          go_roundw
          case rel => exact Or.inr ⟨by go_num, Lib.hid ⟨v', hI.out.1, hI.out.2⟩⟩
          case measure => simp [intOf]
    · go_wp2_with fail
      go_end0
      exact ⟨rfl, hend.out⟩
theorem own_u8 {w : World} {B n c : Nat} {a : Option Addr} {l : List UInt8} (h : w.ownsRow B 5 1 (.slice a n c) n (u8s l)) (hl : l.length = n) :
    (convert 40 9 (.slice a n c)).run Try.prog w = .ok (.string (str l)) w := by
  subst hl
  rcases h.2 with ⟨e, e0⟩ | ⟨g, cap, cur, e, _, hg, _⟩
  · obtain rfl : l = [] := List.eq_nil_of_length_eq_zero e0
    cases e
    exact run_convert_bytes_nil (P := Try.prog) (w := w) 40 5 Try.underlying40 Try.underlying5 0 0 _ Try.underlying9
  · simp only [Value.slice.injEq, true_and] at e
    obtain ⟨rfl, rfl⟩ := e
    exact run_convert_bytes_back (P := Try.prog) w 40 9 5 ⟨g, 0, none⟩ _ l Try.underlying40 Try.underlying5 Try.underlying9 (fun j hj => by
      have hadd : (⟨g, 0, none⟩ : Addr).add j = ⟨g, j, none⟩ := by unfold Addr.add; split <;> simp_all
      rw [hadd, h.cellAt j (by omega)]
      simp [u8s, u8v, hj])
theorem ostring_any (g B : Nat) (v : Value) (bits : List Bool) (w : World) (hO : OutV w g B v bits) :
    Calls Try.prog 38 #[.pointer (some ⟨g, 0, none⟩)] w fun e w' => e = .returned (.string (str (pk bits))) ∧ w = w' := by
  obtain ⟨a, c, rfl⟩ := own_form hO.own
  have hcv := own_u8 hO.own rfl
  have c0 := Blk.cell hO.blk 0 (v := .slice a (pk bits).length c) rfl
  obtain ⟨n, hn⟩ : ∃ n, (pk bits).length = n := ⟨_, rfl⟩
  rw [hn] at hcv c0
  clear hO hn
  go_enter Try.func38, Try.ntmps38
  go_wp2_with fail
  go_ret
  exact ⟨rfl, rfl⟩
theorem read_any (s : ByteArray) (w : World) :
    Calls Try.prog 52 #[.string s] w fun e w' => e = .returned (.pointer (some ⟨w.heap.size, 0, none⟩)) ∧ w' = w.alloc (.cells (inC 0 s) 118) := by
  go_enter Try.func52, Try.ntmps52
  go_wp2_with fail
  go_ret
  exact ⟨rfl, rfl⟩
/-- a row of bytes, some of which are laid -/
def rowB (l : List UInt8) (m : Nat) : Array Value := (u8s l ++ List.replicate m (Value.int .u8 0)).toArray
theorem rowB_set (l : List UInt8) (m : Nat) (c : UInt8) : (rowB l (m + 1)).setIfInBounds l.length (u8v c) = rowB (l ++ [c]) m := by
  unfold rowB
  rw [List.setIfInBounds_toArray]
  congr 1
  rw [List.set_append_right _ _ (by simp [u8s]), show l.length - (u8s l).length = 0 by simp [u8s]]
  simp [u8s, List.replicate_succ]
theorem rowB_at (l : List UInt8) (m : Nat) : (rowB l (m + 1))[l.length]? = some (Value.int .u8 0) := by
  unfold rowB
  rw [List.getElem?_toArray, List.getElem?_append_right (by simp [u8s]), show l.length - (u8s l).length = 0 by simp [u8s]]
  simp [List.replicate_succ]
theorem mk_bytes (n : Nat) (hn : n ≤ 1099511627776) (V : World) : (Instr.makeSlice 40 (.int .i64 (n : Int)) (.int .i64 (n : Int))).run Try.prog V = .ok (.slice (some ⟨V.heap.size, 0, none⟩) n n) (V.alloc (.cells (rowB [] n) 5)) := by
  obtain ⟨i, z, hi, hz, hsz, hby, hzs⟩ := elemB.i
  have hz2 : z = .int .u8 0 := by
    have : (Try.prog.info? 5).bind (·.zero) = some (.int .u8 0) := by kernel_rfl
    rw [hi] at this
    simp [hz] at this
    exact this
  have := run_make (P := Try.prog) V 40 5 i z Try.underlying40 hi hz .i64 .i64 n n (by omega) (Int.le_refl _) (by rw [hby]; omega) (by omega)
  rw [this]
  congr 2
  rw [hsz, Nat.mul_one, hz2]
  congr 1
  have e := toList_madeCells_one (.int .u8 0) n
  apply Array.toList_inj.1
  rw [show (Value.int IntKind.u8 0).cells = #[.int .u8 0] from rfl, Int.toNat_natCast, e]
  simp [rowB, u8s]
theorem conv_row {w : World} {g n : Nat} {l : List UInt8} (h : Blk w g 5 (rowB l 0)) (hl : l.length = n) (c : Nat) :
    (convert 40 9 (.slice (some ⟨g, 0, none⟩) n c)).run Try.prog w = .ok (.string (str l)) w := by
  subst hl
  exact run_convert_bytes_back (P := Try.prog) w 40 9 5 ⟨g, 0, none⟩ c l Try.underlying40 Try.underlying5 Try.underlying9 (fun j hj => by
    have hadd : (⟨g, 0, none⟩ : Addr).add j = ⟨g, j, none⟩ := by unfold Addr.add; split <;> simp_all
    rw [hadd]
    exact Blk.cell h j (by simp [rowB, u8s, u8v, hj]))
theorem gb8 (s : ByteArray) (j : Nat) (c : UInt8) (h : (bl s)[j]? = some c) : gb s (8 * j) 8 = c.toNat := by
  have hb : ∀ t, t < 8 → bitS s (8 * j + t) = c.toNat / 2 ^ (7 - t) % 2 := fun t ht => by
    unfold bitS
    rw [show (8 * j + t) / 8 = j by omega, show (8 * j + t) % 8 = t by omega]
    have : s.data[j]? = some c := by unfold bl at h; rwa [Array.getElem?_toList] at h
    rw [this]; rfl
  have hc := UInt8.toNat_lt c
  simp only [gb]
  rw [hb 0 (by omega), hb (0 + 1) (by omega), hb (0 + 1 + 1) (by omega), hb (0 + 1 + 1 + 1) (by omega), hb (0 + 1 + 1 + 1 + 1) (by omega), hb (0 + 1 + 1 + 1 + 1 + 1) (by omega), hb (0 + 1 + 1 + 1 + 1 + 1 + 1) (by omega), hb (0 + 1 + 1 + 1 + 1 + 1 + 1 + 1) (by omega)]
  simp only [Nat.reduceAdd, Nat.reduceSub, Nat.reducePow]
  omega
set_option maxHeartbeats 800000 in
theorem itext_ok (g i n : Nat) (s : ByteArray) (w : World) (h : Blk w g 118 (inC (8 * i) s)) (hs : s.size ≤ 1099511627776) (hn : i + n ≤ s.size) :
    Calls Try.prog 54 #[.pointer (some ⟨g, 0, none⟩), .int .i64 (n : Int)] w fun e w' => e = .returned (.string (s.extract i (i + n))) ∧ Blk w' g 118 (inC (8 * (i + n)) s) ∧ w.grownBy w' (some g) := by
  have k1 := text_any g (8 * i) s w h
  have k2 := may_ok g (8 * i) (8 * n) s w h hs (by omega)
  rw [show ((8 * n : Nat) : Int) = (n : Int) * 8 by omega] at k2
  have hmin : min (n : Int) ((s.size : Int) + 1) = (n : Int) := by omega
  have t1 : decide ((0 : Int) ≤ (n : Int)) = true := by simp
  have z1 : (n : Int) ≤ 1099511627776 := by omega
  have z2 : (s.size : Int) ≤ 1099511627776 := by omega
  have hmk := mk_bytes n (by omega)
  have HB := Lib.hid h
  have HX := Lib.hid (show s.extract i (i + n) = str (((bl s).drop i).take n) by
    rw [← str_bl (s.extract i (i + n)), ext_bl, Nat.add_sub_cancel_left])
  clear h
  go_enter Try.func54, Try.ntmps54
  go_wp2_with fail
  (with_reducible refine (k1).mono ?_); rintro e1 W1 ⟨rfl, rfl⟩
  go_wp2_with fail
  (with_reducible refine (k2).mono ?_); rintro e1 W1 ⟨rfl, rfl⟩
  clear k1 k2 hmin t1 z2
  go_wp2_with fail
  go_loopw [23] (fun j wr => ∃ k : Nat, k ≤ n ∧ j = .int .i64 k ∧ Hid (Blk wr g 118 (inC (8 * (i + k)) s) ∧ Blk wr w.heap.size 5 (rowB (((bl s).drop i).take k) (n - k)) ∧ w.grownBy wr (some g))) (fun j _ => n - (intOf j).toNat)
  case atStart => exact ⟨0, by omega, rfl, Lib.hid ⟨HB.out.alloc _, by simpa using Blk.new w 5 (rowB [] n), only_alloc (only_refl _ _) _⟩⟩
  case round =>
    obtain ⟨k, hk, rfl, hI⟩ := hrel
    by_cases hkn : k < n
    · have t1 : decide ((k : Int) < (n : Int)) = true := by simp; omega
      obtain ⟨h1, h2, h3⟩ := hI.out
      obtain ⟨c, hc⟩ : ∃ c, (bl s)[i + k]? = some c := ⟨_, List.getElem?_eq_getElem (by rw [bl_len]; omega)⟩
      have kg := get_ok g (8 * (i + k)) 8 s wr h1 hs (by omega) (by decide)
      rw [gb8 s (i + k) c hc, show ((8 : Nat) : Int) = 8 from rfl] at kg
      have hlt := UInt8.toNat_lt c
      have q1 : IntKind.u8.wrap (c.toNat : Int) = (c.toNat : Int) := by rw [IntKind.wrap_u8]; omega
      have hll : (((bl s).drop i).take k).length = k := by rw [List.length_take, List.length_drop, bl_len]; omega
      have HT := Lib.hid (show ((bl s).drop i).take (k + 1) = ((bl s).drop i).take k ++ [c] from take_snoc (by rw [List.getElem?_drop]; exact hc))
      have hne : w.heap.size ≠ g := by have := HB.out.lt; omega
      have HN := Lib.hid (And.intro hll hne)
      have HI := Lib.hid (And.intro h2 h3)
      obtain ⟨C, hC⟩ : ∃ C : Int, (c.toNat : Int) = C := ⟨_, rfl⟩
      have HC := Lib.hid hC
      rw [hC] at kg q1
      have k0 : (0 : Int) ≤ (k : Int) := by omega
      have k1 : (k : Int) < (n : Int) := by omega
      clear hI h1 h2 h3 hc hlt hll hne hC
      go_wp2_with fail
      (with_reducible refine (kg).mono ?_); rintro e1 W1 ⟨rfl, g1, g2⟩
      have hb2 := HI.out.1.grown g2 (by simpa using HN.out.2)
      have e1 : n - k = (n - (k + 1)) + 1 := by omega
      rw [e1] at hb2
      have c1 := Blk.cell hb2 k (v := .int .u8 0) (by have := rowB_at (((bl s).drop i).take k) (n - (k + 1)); rwa [HN.out.1] at this)
      have f1 := Blk.frozen hb2 k
      have HI2 := Lib.hid (show Blk (W1.setCell ⟨w.heap.size, k, none⟩ (.int .u8 C)) g 118 (inC (8 * (i + (k + 1))) s) ∧ Blk (W1.setCell ⟨w.heap.size, k, none⟩ (.int .u8 C)) w.heap.size 5 (rowB (((bl s).drop i).take (k + 1)) (n - (k + 1))) ∧ w.grownBy (W1.setCell ⟨w.heap.size, k, none⟩ (.int .u8 C)) (some g) from by
        refine ⟨?_, ?_, only_new (only_trans HI.out.2 g2) (Nat.le_refl _) _⟩
        · rw [show 8 * (i + (k + 1)) = 8 * (i + k) + 8 by omega]
          exact g1.far (by simpa using fun e => HN.out.2 e.symm) _
        · have := hb2.set_ k (.int .u8 C)
          rw [HT.out, ← rowB_set, HN.out.1, u8v, HC.out]
          exact this)
      clear kg g1 g2 hb2 e1
      go_wp2_with fail
      go_roundw
      case rel => exact ⟨k + 1, by omega, by go_num, HI2⟩
      case measure => simp [intOf]; omega
    · obtain rfl : k = n := by omega
      have t1 : decide ((k : Int) < (k : Int)) = false := by simp
      obtain ⟨h1, h2, h3⟩ := hI.out
      rw [Nat.sub_self] at h2
      have hcv := conv_row h2 (show (((bl s).drop i).take k).length = k by rw [List.length_take, List.length_drop, bl_len]; omega) k
      have HF := Lib.hid (And.intro h1 h3)
      clear h1 h2 h3 hI
      go_wp2_with fail
      go_ret
      exact ⟨by rw [HX.out]; rfl, HF.out.1, HF.out.2⟩
end Go.Proofs.Ytfadhgbhdoddpaa.BiG
