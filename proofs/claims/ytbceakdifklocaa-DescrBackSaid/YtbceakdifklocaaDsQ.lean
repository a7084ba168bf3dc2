/- The document's Loop. -/
import Derived.Test.YtbceakdifklocaaDsP
import Derived.Test.YtbceakdifklocaaDsG
namespace Go.Proofs.Ytbceakdifklocaa.DsQ
open Go.RowKit Go.Proofs.Ytbceakdifklocaa.Q Go.Proofs.Ytbceakdifklocaa.Mem Go.Proofs.Ytbceakdifklocaa.DsA Go.Proofs.Ytbceakdifklocaa.DsB Go.Proofs.Ytbceakdifklocaa.DsC Go.Proofs.Ytbceakdifklocaa.DsD Go.Proofs.Ytbceakdifklocaa.DsE Go.Proofs.Ytbceakdifklocaa.DsF Go.Proofs.Ytbceakdifklocaa.DsP Go.Proofs.Ytbceakdifklocaa.Rg Go.Proofs.Ytbceakdifklocaa.Ap

/-- bytes as a string -/
def str (l : List UInt8) : ByteArray := ⟨l.toArray⟩
theorem str_size (l : List UInt8) : (str l).size = l.length := by simp [str, ByteArray.size]
theorem str_app (l m : List UInt8) : str l ++ str m = str (l ++ m) := by
  unfold str
  rw [ByteArray.mk_append_mk]
theorem str_of (s : ByteArray) : str s.data.toList = s := by cases s; rfl
theorem one_str (d : Dc) : strOfNums [d.tag, (d.body.size : Int)] ++ d.body = str (oneL d) := by
  have h1 : strOfNums [d.tag, (d.body.size : Int)] = str [UInt8.ofNat d.tag.toNat, UInt8.ofNat d.body.size] := rfl
  have h2 := str_app [UInt8.ofNat d.tag.toNat, UInt8.ofNat d.body.size] d.body.data.toList
  rw [str_of] at h2
  rw [h1, h2]
  rfl

set_option maxRecDepth 100000
set_option maxHeartbeats 1600000 in
theorem rloop_any (a : Option Addr) (c n : Nat) (L : List Dc) (w : World) (hn : L.length = n) (hl : n ≤ 1000) (hL : Ds w a L) :
    Calls Try.prog 22 #[.slice a n c] w fun e w' => e = .returned (.tuple #[.string (if loopE L = 0 then str (loopL L) else nob), .int .i64 (loopE L)]) ∧ Below w.heap.size w w' := by
  subst hn
  obtain ⟨R, hR⟩ : ∃ R : Ending → World → Prop, R = (fun e w' => e = .returned (.tuple #[.string (if loopE L = 0 then str (loopL L) else nob), .int .i64 (loopE L)]) ∧ Below w.heap.size w w') := ⟨_, rfl⟩
  rw [← hR]
  have HR := Lib.hid hR
  have HL := Lib.hid hL
  clear hR hL
  go_enter Try.func22, Try.ntmps22
  go_wp2_with fail
  go_loopw [4, 5] (fun s i wr => ∃ (k : Nat) (b : ByteArray), k ≤ L.length ∧ s = .string b ∧ i = .int .i64 k ∧ Hid (firstE (L.take k) = 0 ∧ b = str (loopL (L.take k))) ∧ b.size ≤ 257 * k ∧ Below w.heap.size w wr) (fun _ i _ => L.length - (intOf i).toNat)
  case atStart => exact ⟨0, nob, by omega, rfl, rfl, Lib.hid ⟨rfl, rfl⟩, by decide, Below.refl _ _⟩
  case round =>
    obtain ⟨k, b, hk, rfl, rfl, hI, hbs, hb⟩ := hrel
    by_cases hkl : k < L.length
    · have t0 : decide (k < L.length) = true := by simpa using hkl
      obtain ⟨d, hd⟩ : ∃ d, L[k]? = some d := ⟨L[k], List.getElem?_eq_getElem hkl⟩
      obtain ⟨b1, o1, rfl, l1, c0, c1⟩ := HL.out.below (Nat.le_refl _) hb k d hd
      obtain ⟨hf1, hf2⟩ := first_take hd hI.out.1
      have hsn := loop_snoc hd
      have kr := fun V => rin_any d.tag 255 V
      by_cases hE : chkE d = 0
      · have hds : in1 255 d.tag = true ∧ 0 ≤ d.tag ∧ d.tag ≤ 255 ∧ d.body.size ≤ 255 := by
          unfold chkE at hE
          split at hE
          · rename_i h1
            have : 0 ≤ d.tag ∧ d.tag ≤ 255 := by simpa [in1] using h1
            split at hE
            · omega
            · exact ⟨h1, by omega, by omega, by omega⟩
          · omega
        obtain ⟨hin, hd1, hd2, hd3⟩ := hds
        rw [hin] at kr
        have t1 : decide (255 < (d.body.size : Int)) = false := by simp; omega
        rw [hE] at hf1
        have hnew : (b ++ strOfNums [d.tag, (d.body.size : Int)]) ++ d.body = str (loopL (L.take (k + 1))) := by
          rw [ByteArray.append_assoc, one_str, hI.out.2, str_app, hsn]
        have HF := Lib.hid (And.intro hf1 hnew)
        have hsz1 : (b ++ strOfNums [d.tag, (d.body.size : Int)]).size ≤ 257 * k + 2 := by rw [ByteArray.size_append, strOfNums_size]; simp only [List.length_cons, List.length_nil]; omega
        have hsz2 : ((b ++ strOfNums [d.tag, (d.body.size : Int)]) ++ d.body).size ≤ 257 * (k + 1) := by rw [ByteArray.size_append]; omega
        have hadd : ∀ U : World, (Op.stringOp .add b (strOfNums [d.tag, (d.body.size : Int)])).run Try.prog U = .ok (.string (b ++ strOfNums [d.tag, (d.body.size : Int)])) U := fun U => run_string_add_sum U _ _ (by rw [strOfNums_size]; simp only [List.length_cons, List.length_nil]; omega)
        have hadd2 : ∀ U : World, (Op.stringOp .add (b ++ strOfNums [d.tag, (d.body.size : Int)]) d.body).run Try.prog U = .ok (.string ((b ++ strOfNums [d.tag, (d.body.size : Int)]) ++ d.body)) U := fun U => run_string_add_sum U _ _ (by omega)
        have hk0 : (0 : Int) ≤ (k : Int) := Int.natCast_nonneg _
        have hk1 : (k : Int) < (L.length : Int) := by omega
        have f0 := fun p => (cell_ext l1 c0 p)
        have f1 := fun p => (cell_ext l1 c1 p)
        have HTX := Lib.hid (fun V a (h : Ints V a [d.tag, (d.body.size : Int)]) => text_any a 2 2 [d.tag, (d.body.size : Int)] V rfl (by simp) h (by simp [inB, in1]; omega))
        clear hf1 hf2 hsn hE hd hnew hsz1
        go_wp2_with fail
        (with_reducible refine (kr _).mono ?_); rintro e W1 ⟨rfl, rfl⟩
        clear kr
        go_wp2_with fail
        clear c0 c1
        refine Go.Proofs.Ytbceakdifklocaa.Rg.region_new_all [(12, newS 2 3 #[.int .i64 d.tag, .int .i64 (d.body.size : Int)] 0), (13, val (.string (strOfNums [d.tag, (d.body.size : Int)])))] (by kernel_rfl) (by kernel_rfl) (by kernel_rfl) (lk_cons newS_inh (lk_cons val_inh lk_nil)) (lk_cons newS_mono (lk_cons val_mono lk_nil)) ?_
        intro σ hσ
        have hσ13 : σ 13 = .string (strOfNums [d.tag, (d.body.size : Int)]) := hσ 13 _ rfl
        refine Go.Proofs.Ytbceakdifklocaa.Rg.wpN_take 12 (by kernel_rfl) (by kernel_rfl) (by kernel_rfl) ?_
        simp only [List.take_succ_cons, List.take_zero, List.drop_succ_cons, List.drop_zero]
        repeat (go_big_quiet_step (fail))
        refine wpQuiet_nil ?_
        refine wpN_sp _ rfl (by kernel_rfl) (spAt_newS 2 3 #[.int .i64 d.tag, .int .i64 (d.body.size : Int)] (Nat.zero_le _) (by intro w0; go_simp)) ?_
        simp only [Act.put, List.setIfInBounds_toArray, List.set_cons_zero, List.set_cons_succ]
        refine wpN_sp _ rfl (by kernel_rfl) (spAt_val (f := 42) (args := #[σ 12]) (by intro w0; go_simp) (fun p hd => ?_)) ?_
        · obtain ⟨g, hg, _, hblk⟩ := dep_at hd 12 rfl (by kernel_rfl)
          rw [hg]
          exact HTX.out _ _ (ints_blk hblk rfl)
        simp only [Act.put, List.setIfInBounds_toArray, List.set_cons_zero, List.set_cons_succ]
        rw [hσ13]
        refine Go.Proofs.Ytbceakdifklocaa.Rg.wpN_take 8 (by kernel_rfl) (by kernel_rfl) (by kernel_rfl) ?_
        simp only [List.take_succ_cons, List.take_zero, List.drop_succ_cons, List.drop_zero]
        repeat (go_big_quiet_step (fail))
        refine wpQuiet_nil ?_
        refine wpN_nil ?_
        rintro w9 ⟨pq, rfl⟩ _
        have hb2 := hb.trans ((below_ext wr pq).mono hb.size)
        clear hb f0 f1 hadd hadd2 hσ hσ13 t1 HTX
        go_wp2_with fail
        go_roundw
        case rel => exact ⟨k + 1, _, by omega, rfl, by go_num, HF, hsz2, hb2⟩
        case measure => simp [intOf]; omega
      · have hFE := hf2 hE
        have hLE : loopE L = chkE d := by unfold loopE; rw [hFE, if_neg hE]
        have HLE := Lib.hid hLE
        have HE := Lib.hid hE
        cases hin : in1 255 d.tag with
        | false =>
          have hc : chkE d = 15 := by simp [chkE, hin]
          have HC := Lib.hid hc
          rw [hin] at kr
          clear hf1 hf2 hsn hE hd hFE hLE hc
          go_wp2_with fail
          (with_reducible refine (kr _).mono ?_); rintro e W1 ⟨rfl, rfl⟩
          clear kr
          go_wp2_with fail
          rw [HR.out, HLE.out, HC.out]
          exact ⟨rfl, hb⟩
        | true =>
          have hbs : 255 < d.body.size := by
            rcases Nat.lt_or_ge 255 d.body.size with h | h
            · exact h
            · exact absurd (show chkE d = 0 by simp [chkE, hin]; omega) hE
          have t1 : decide (255 < (d.body.size : Int)) = true := by simp; omega
          have hc : chkE d = 11 := by simp [chkE, hin, hbs]
          have HC := Lib.hid hc
          rw [hin] at kr
          clear hf1 hf2 hsn hE hd hFE hLE hc hbs
          go_wp2_with fail
          (with_reducible refine (kr _).mono ?_); rintro e W1 ⟨rfl, rfl⟩
          clear kr
          go_wp2_with fail
          rw [HR.out, HLE.out, HC.out]
          exact ⟨rfl, hb⟩
    · obtain rfl : k = L.length := by omega
      have t0 : decide (L.length < L.length) = false := by simp
      obtain ⟨hI1, hI2⟩ := hI.out
      rw [List.take_length] at hI1 hI2
      have hbl : b.size = (loopL L).length := by rw [hI2, str_size]
      have HI2 := Lib.hid hI2
      by_cases hlong : 4095 < (loopL L).length
      · have t1 : decide (4095 < (b.size : Int)) = true := by rw [hbl]; simp; omega
        have HLE := Lib.hid (show loopE L = 11 by unfold loopE; rw [if_pos hI1, if_pos hlong])
        clear hlong hI hI1 hI2 hbl
        go_wp2_with fail
        rw [HR.out, HLE.out]
        exact ⟨rfl, hb⟩
      · have t1 : decide (4095 < (b.size : Int)) = false := by rw [hbl]; simp; omega
        have HLE := Lib.hid (show loopE L = 0 by unfold loopE; rw [if_pos hI1, if_neg hlong])
        clear hlong hI hI1 hI2 hbl
        go_wp2_with fail
        rw [HR.out, HLE.out, if_pos rfl, ← HI2.out]
        exact ⟨rfl, hb⟩
end Go.Proofs.Ytbceakdifklocaa.DsQ
