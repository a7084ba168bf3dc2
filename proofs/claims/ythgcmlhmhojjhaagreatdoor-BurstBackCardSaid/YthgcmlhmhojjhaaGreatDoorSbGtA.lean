/- The law's helpers: in, few, broken. -/
import Derived.Test.YthgcmlhmhojjhaaGreatDoorSbPkX
import Derived.Test.YthgcmlhmhojjhaaGreatDoorSbPkB
namespace Go.Proofs.YthgcmlhmhojjhaaGreatDoor.GtA
open Go Go.RowKit Go.Proofs.YthgcmlhmhojjhaaGreatDoor.Q Go.Proofs.YthgcmlhmhojjhaaGreatDoor.Mem Go.Proofs.YthgcmlhmhojjhaaGreatDoor.Rg Go.Proofs.YthgcmlhmhojjhaaGreatDoor.Ap Go.Proofs.YthgcmlhmhojjhaaGreatDoor.St Go.Proofs.YthgcmlhmhojjhaaGreatDoor.CrB Go.Proofs.YthgcmlhmhojjhaaGreatDoor.Ints

set_option maxRecDepth 100000
theorem in_any (a : Option Addr) (n c : Nat) (l : List Int) (z : Int) (w : World) (hn : l.length = n) (hl : n ≤ 9223372036854775807) (hL : Ints w a l) :
    Calls Tryz.prog 19 #[.slice a n c, .int .i64 z] w fun e w' => e = .returned (.bool (decide (z ∈ l))) ∧ w = w' := by
  have HN := Lib.hid hn
  have HL := Lib.hid hL
  have s0 : (n : Int) ≤ 9223372036854775807 := by omega
  clear hn hL hl
  go_enter Tryz.func19, Tryz.ntmps19
  go_wp2_with fail
  go_loop [5] (fun iv => ∃ k : Nat, k ≤ n ∧ iv = .int .i64 k ∧ Hid (z ∉ l.take k)) (fun iv => n - (intOf iv).toNat)
  case atStart => exact ⟨0, by omega, rfl, Lib.hid (by simp)⟩
  case round =>
    obtain ⟨k, hk, rfl, HK⟩ := hrel
    have k0 : (0 : Int) ≤ (k : Int) := Int.natCast_nonneg _
    by_cases hkn : k < n
    · have t0 : decide ((k : Int) < (n : Int)) = true := decide_eq_true (by omega)
      have t0' : decide (k < n) = true := decide_eq_true hkn
      obtain ⟨y, hy⟩ : ∃ y, l[k]? = some y := ⟨_, List.getElem?_eq_getElem (by rw [HN.out]; exact hkn)⟩
      obtain ⟨b, o, rfl, hlt, hc⟩ := HL.out k y hy
      have k1 : (k : Int) < (n : Int) := by omega
      have HY := Lib.hid hy
      clear hy
      by_cases hx : y = z
      · have t1 : (y == z) = true := beq_iff_eq.2 hx
        have HF := Lib.hid (show decide (z ∈ l) = true from decide_eq_true (hx ▸ List.mem_of_getElem? HY.out))
        clear hx
        go_wp2_with fail
        go_ret
        exact ⟨by rw [HF.out]; rfl, rfl⟩
      · have t1 : (y == z) = false := beq_eq_false_iff_ne.2 hx
        have HX := Lib.hid hx
        clear hx
        go_wp2_with fail
        go_round
        case rel => exact ⟨k + 1, by omega, by go_num, Lib.hid (by
          intro hm
          rw [List.take_add_one, HY.out, Option.toList_some, List.mem_append, List.mem_singleton] at hm
          rcases hm with hm | hm
          · exact HK.out hm
          · exact HX.out hm.symm)⟩
        case measure => simp [intOf]; omega
    · obtain rfl : k = n := by omega
      have t0 : decide ((k : Int) < (k : Int)) = false := decide_eq_false (by omega)
      have t0' : decide (k < k) = false := decide_eq_false (by omega)
      have HF := Lib.hid (show decide (z ∈ l) = false from decide_eq_false (by have := HK.out; rw [List.take_of_length_le (by rw [HN.out]; exact Nat.le_refl _)] at this; exact this))
      clear HK HL
      go_wp2_with fail
      go_ret
      exact ⟨by rw [HF.out]; rfl, rfl⟩
theorem few_any (a b : Option Addr) (n c m d : Nat) (w : World) (hn : n ≤ 9223372036854775807) (hm : m ≤ 9223372036854775807) :
    Calls Tryz.prog 15 #[.agg #[.slice a n c, .slice b m d]] w fun e w' => e = .returned (.bool (decide (n ≤ 60 ∧ m ≤ 20))) ∧ Below w.heap.size w w' := by
  have HBE := Lib.hid ((Below.refl w.heap.size w).alloc (Nat.le_refl _) (.cells #[.slice a n c, .slice b m d] 46))
  have hbk := Blk.new w 46 #[.slice a n c, .slice b m d]
  have x0 := Blk.cell (hbk) 0 (v := .slice a n c) rfl
  have x1 := Blk.cell (hbk) 1 (v := .slice b m d) rfl
  clear hbk
  by_cases h1 : n ≤ 60
  · have t1 : decide ((n : Int) ≤ 60) = true := decide_eq_true (by omega)
    have t1' : decide (n ≤ 60) = true := decide_eq_true h1
    by_cases h2 : m ≤ 20
    · have t2 : decide ((m : Int) ≤ 20) = true := decide_eq_true (by omega)
      have t2' : decide (m ≤ 20) = true := decide_eq_true h2
      have HF := Lib.hid (show decide (n ≤ 60 ∧ m ≤ 20) = true from decide_eq_true ⟨h1, h2⟩)
      clear h1 h2
      go_enter Tryz.func15, Tryz.ntmps15
      go_wp2_with fail
      go_ret
      exact ⟨by rw [HF.out]; rfl, HBE.out⟩
    · have t2 : decide ((m : Int) ≤ 20) = false := decide_eq_false (by omega)
      have t2' : decide (m ≤ 20) = false := decide_eq_false h2
      have HF := Lib.hid (show decide (n ≤ 60 ∧ m ≤ 20) = false from decide_eq_false (fun h => h2 h.2))
      clear h1 h2
      go_enter Tryz.func15, Tryz.ntmps15
      go_wp2_with fail
      go_ret
      exact ⟨by rw [HF.out]; rfl, HBE.out⟩
  · have t1 : decide ((n : Int) ≤ 60) = false := decide_eq_false (by omega)
    have t1' : decide (n ≤ 60) = false := decide_eq_false h1
    have HF := Lib.hid (show decide (n ≤ 60 ∧ m ≤ 20) = false from decide_eq_false (fun h => h1 h.1))
    clear h1
    go_enter Tryz.func15, Tryz.ntmps15
    go_wp2_with fail
    go_ret
    exact ⟨by rw [HF.out]; rfl, HBE.out⟩
/-- which of a list's turns meets a section -/
def hitB (n : Int) (s : Nat) (p : Int × Int) : Bool := decide (p.1 = n ∧ 0 ≤ p.2 ∧ p.2 < s)
def flip (t : ByteArray) (i : Nat) : ByteArray := str ((bl t).set i ((bl t).getD i 0 ^^^ 1))
def brkS (L : List (Int × Int)) (n : Int) (t : ByteArray) : ByteArray := match L.find? (hitB n t.size) with
  | some p => flip t p.2.toNat
  | none => t
def brkI (L : List (Int × Int)) (lost : List Int) (n : Int) (t : ByteArray) : Bool := match L.find? (hitB n t.size) with
  | some _ => true
  | none => !decide (n ∈ lost)
def enT2 (p : Int × Int) : List Value := [.int .i64 p.1, .int .i64 p.2]
theorem find_take {α : Type} {p : α → Bool} {l : List α} {k : Nat} {x : α} (h : l[k]? = some x) (hn : (l.take k).find? p = none) (hx : p x = true) : l.find? p = some x := by
  have hk := (List.getElem?_eq_some_iff.1 h).1
  have : l = l.take k ++ x :: l.drop (k + 1) := by
    conv => lhs; rw [← List.take_append_drop k l]
    rw [List.drop_eq_getElem_cons hk, (List.getElem?_eq_some_iff.1 h).2]
  rw [this, List.find?_append, hn, List.find?_cons, hx]
  rfl
theorem find_step {α : Type} {p : α → Bool} {l : List α} {k : Nat} {x : α} (h : l[k]? = some x) (hn : (l.take k).find? p = none) (hx : p x = false) : (l.take (k + 1)).find? p = none := by
  rw [List.take_add_one, h, List.find?_append, hn]
  simp [hx]
theorem flip_is (t : ByteArray) (i : Nat) (h : i < t.size) : t.extract 0 i ++ str [(bl t).getD i 0 ^^^ 1] ++ t.extract (i + 1) t.size = flip t i := by
  refine bl_inj ?_
  unfold flip
  rw [bl_app, bl_app, bl_str, bl_str, ext_bl, ext_bl]
  have hl : (bl t).length = t.size := bl_len t
  rw [List.set_eq_take_append_cons_drop, if_pos (by rw [hl]; exact h)]
  simp
  rw [List.take_of_length_le (by rw [List.length_drop, hl]; omega)]
set_option maxHeartbeats 3200000 in
theorem broken_any (la ta : Option Addr) (ln lc tn tc : Nat) (lost : List Int) (L : List (Int × Int)) (n : Int) (t : ByteArray) (w : World) (hln : lost.length = ln) (hl : ln ≤ 9223372036854775807) (hlo : Ints w la lost)
    (htn : L.length = tn) (ht : tn ≤ 9223372036854775807) (hT : Seq enT2 2 w ta L) (hs : t.size ≤ 1099511627776) :
    Calls Tryz.prog 35 #[.agg #[.slice la ln lc, .slice ta tn tc], .int .i64 n, .string t] w fun e w' => e = .returned (.tuple #[.string (brkS L n t), .bool (brkI L lost n t)]) ∧ Below w.heap.size w w' := by
  have HBE := Lib.hid ((Below.refl w.heap.size w).alloc (Nat.le_refl _) (.cells #[.slice la ln lc, .slice ta tn tc] 46))
  have hbk := Blk.new w 46 #[.slice la ln lc, .slice ta tn tc]
  have x0 := Blk.cell (hbk) 0 (v := .slice la ln lc) rfl
  have x1 := Blk.cell (hbk) 1 (v := .slice ta tn tc) rfl
  have HN := Lib.hid (And.intro hln htn)
  have HL := Lib.hid (hlo.below (Nat.le_refl _) HBE.out)
  have HT := Lib.hid (hT.below (Nat.le_refl _) HBE.out)
  have HLL := Lib.hid hl
  have s0 : (tn : Int) ≤ 9223372036854775807 := by omega
  have s1 : (t.size : Int) ≤ 1099511627776 := by omega
  clear hln hlo htn ht hT hbk hl
  go_enter Tryz.func35, Tryz.ntmps35
  go_wp2_with fail
  go_loop [8] (fun iv => ∃ k : Nat, k ≤ tn ∧ iv = .int .i64 k ∧ Hid ((L.take k).find? (hitB n t.size) = none)) (fun iv => tn - (intOf iv).toNat)
  case atStart => exact ⟨0, by omega, rfl, Lib.hid (by simp)⟩
  case round =>
    obtain ⟨k, hk, rfl, HK⟩ := hrel
    have k0 : (0 : Int) ≤ (k : Int) := Int.natCast_nonneg _
    by_cases hkn : k < tn
    · have t0 : decide ((k : Int) < (tn : Int)) = true := decide_eq_true (by omega)
      have t0' : decide (k < tn) = true := decide_eq_true hkn
      obtain ⟨⟨p, q⟩, hy⟩ : ∃ y, L[k]? = some y := ⟨_, List.getElem?_eq_getElem (by rw [HN.out.2]; exact hkn)⟩
      obtain ⟨b, o, rfl, hlt, hc⟩ := HT.out k _ hy
      have c0 := hc 0 _ rfl
      have c1 := hc 1 _ rfl
      rw [off_eq] at c0 c1
      rw [Nat.add_zero] at c0
      dsimp only at c0 c1
      have k1 : (k : Int) < (tn : Int) := by omega
      have HY := Lib.hid hy
      clear hy hc
      by_cases hx : p = n ∧ 0 ≤ q ∧ q < t.size
      · have t1 : (p == n) = true := beq_iff_eq.2 hx.1
        have t2 : decide ((0 : Int) ≤ q) = true := decide_eq_true hx.2.1
        have t3 : decide (q < (t.size : Int)) = true := decide_eq_true hx.2.2
        have hfd := find_take HY.out HK.out (show hitB n t.size (p, q) = true from decide_eq_true hx)
        obtain ⟨i, rfl⟩ : ∃ i : Nat, q = (i : Int) := ⟨q.toNat, by omega⟩
        have hi : i < t.size := by omega
        have HF := Lib.hid (show brkS L n t = flip t i ∧ brkI L lost n t = true from ⟨by unfold brkS; rw [hfd]; show flip t (Int.toNat (i : Int)) = _; rw [Int.toNat_natCast], by unfold brkI; rw [hfd]⟩)
        have i0 : (0 : Int) ≤ (i : Int) := Int.natCast_nonneg _
        have i1 : (i : Int) < (t.size : Int) := by omega
        have t3' : decide (i < t.size) = true := decide_eq_true hi
        have HFL := Lib.hid (flip_is t i hi)
        obtain ⟨y, hy1, hy2⟩ := byte_at t i hi
        have hyg : (bl t).getD i 0 = y := by rw [List.getD_eq_getElem?_getD, hy1]; rfl
        rw [hyg] at HFL
        have HX := Lib.hid (show bits .xor .u8 (y.toNat : Int) 1 = ((y ^^^ 1).toNat : Int) by
          have := CrB.xor_u8 y 1
          rw [← UInt8.toNat_xor] at this
          exact this)
        have HST := Lib.hid (show strOfNums [((y ^^^ 1).toNat : Int)] = str [y ^^^ 1] by rw [nums_str]; simp)
        have hix : ∀ V, (Instr.index 9 (.string t) (.int .i64 (i : Int))).run Tryz.prog V = .ok (.int .u8 (y.toNat : Int)) V := fun V => by rw [idx_at t i hi V, hy2]
        have hsz1 : (t.extract 0 i).size = i := by rw [ByteArray.size_extract]; omega
        have hsz2 : (str [y ^^^ 1]).size = 1 := by rw [str_size]; rfl
        have hsz3 : (t.extract (i + 1) t.size).size = t.size - (i + 1) := by rw [ByteArray.size_extract]; omega
        have hadd := fun U => add_at (t.extract 0 i) (str [y ^^^ 1]) (by rw [hsz1, hsz2]; omega) U
        have hadd2 := fun U => add_at (t.extract 0 i ++ str [y ^^^ 1]) (t.extract (i + 1) t.size) (by rw [ByteArray.size_append, hsz1, hsz2, hsz3]; omega) U
        clear hyg hy1 hy2 hsz1 hsz2 hsz3
        clear hx hfd HK
        go_wp2_with fail
        refine Go.Proofs.YthgcmlhmhojjhaaGreatDoor.Rg.region_new_all [(7, newS 1 5 #[.int .u8 ((y ^^^ 1).toNat : Int)] 0), (8, val (.string (str [y ^^^ 1])))] (by kernel_rfl) (by kernel_rfl) (by kernel_rfl) (lk_cons newS_inh (lk_cons val_inh lk_nil)) (lk_cons newS_mono (lk_cons val_mono lk_nil)) ?_
        intro σ hσ
        have hσv : σ 8 = .string (str [y ^^^ 1]) := hσ 8 _ rfl
        refine Go.Proofs.YthgcmlhmhojjhaaGreatDoor.Rg.wpN_take 7 (by kernel_rfl) (by kernel_rfl) (by kernel_rfl) ?_
        simp only [List.take_succ_cons, List.take_zero, List.drop_succ_cons, List.drop_zero]
        repeat (go_big_quiet_step (fail))
        refine wpQuiet_nil ?_
        rw [HX.out]
        refine wpN_sp _ rfl (by kernel_rfl) (spAt_newS 1 5 #[.int .u8 ((y ^^^ 1).toNat : Int)] (Nat.zero_le _) (by intro w0; go_simp)) ?_
        simp only [Act.put, List.setIfInBounds_toArray, List.set_cons_zero, List.set_cons_succ]
        refine wpN_sp _ rfl (by kernel_rfl) (spAt_read (fun p hd => ?_)) ?_
        · obtain ⟨g, hg, _, hblk⟩ := dep_at hd 7 rfl (by kernel_rfl)
          have hcv2 := run_convert_bytes_arg (P := Tryz.prog) (ext _ p) 110 5 Tryz.underlying110 Tryz.underlying5 g 0 1 1 [((y ^^^ 1).toNat : Int)] rfl (fun j hj => by
            match j, hj with
            | 0, _ => exact Blk.cell hblk 0 rfl) _ Tryz.underlying9
          rw [HST.out] at hcv2
          rw [hg]
          go_simp
        simp only [Act.put, List.setIfInBounds_toArray, List.set_cons_zero, List.set_cons_succ]
        rw [hσv]
        refine Go.Proofs.YthgcmlhmhojjhaaGreatDoor.Rg.wpN_take 8 (by kernel_rfl) (by kernel_rfl) (by kernel_rfl) ?_
        simp only [List.take_succ_cons, List.take_zero, List.drop_succ_cons, List.drop_zero]
        repeat (go_big_quiet_step (fail))
        refine wpQuiet_nil ?_
        refine wpN_nil ?_
        rintro w9 ⟨pq, rfl⟩ _
        have hB9 := HBE.out.trans ((below_ext _ pq).mono HBE.out.size)
        clear hσ hσv hix hadd hadd2
        go_wp2_with fail
        go_ret2
        exact ⟨by rw [HF.out.1, HF.out.2, ← HFL.out]; rfl, hB9⟩
      · have HH := Lib.hid (find_step HY.out HK.out (show hitB n t.size (p, q) = false from decide_eq_false hx))
        by_cases h1 : p = n
        · have t1 : (p == n) = true := beq_iff_eq.2 h1
          by_cases h2 : 0 ≤ q
          · have t2 : decide ((0 : Int) ≤ q) = true := decide_eq_true h2
            have t3 : decide (q < (t.size : Int)) = false := decide_eq_false (fun h3 => hx ⟨h1, h2, h3⟩)
            clear hx h1 h2 HK
            go_wp2_with fail
            go_round
            case rel => exact ⟨k + 1, by omega, by go_num, HH⟩
            case measure => simp [intOf]; omega
          · have t2 : decide ((0 : Int) ≤ q) = false := decide_eq_false h2
            clear hx h1 h2 HK
            go_wp2_with fail
            go_round
            case rel => exact ⟨k + 1, by omega, by go_num, HH⟩
            case measure => simp [intOf]; omega
        · have t1 : (p == n) = false := beq_eq_false_iff_ne.2 h1
          clear hx h1 HK
          go_wp2_with fail
          go_round
          case rel => exact ⟨k + 1, by omega, by go_num, HH⟩
          case measure => simp [intOf]; omega
    · obtain rfl : k = tn := by omega
      have t0 : decide ((k : Int) < (k : Int)) = false := decide_eq_false (by omega)
      have t0' : decide (k < k) = false := decide_eq_false (by omega)
      have hfd := HK.out
      rw [List.take_of_length_le (by rw [HN.out.2]; exact Nat.le_refl _)] at hfd
      have HF := Lib.hid (show brkS L n t = t ∧ brkI L lost n t = !decide (n ∈ lost) from ⟨by unfold brkS; rw [hfd], by unfold brkI; rw [hfd]⟩)
      have ki := in_any la ln lc lost n _ HN.out.1 HLL.out HL.out
      clear hfd HK HT
      go_wp2_with fail
      (with_reducible refine (ki).mono ?_); rintro e1 W1 ⟨rfl, rfl⟩
      clear ki
      go_wp2_with fail
      go_ret2
      exact ⟨by rw [HF.out.1, HF.out.2]; rfl, HBE.out⟩
end Go.Proofs.YthgcmlhmhojjhaaGreatDoor.GtA
