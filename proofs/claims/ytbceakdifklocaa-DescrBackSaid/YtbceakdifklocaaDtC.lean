/- The document's Targets. -/
import Derived.Test.YtbceakdifklocaaDtB
namespace Go.Proofs.Ytbceakdifklocaa.DtC
open Go.RowKit Go.Proofs.Ytbceakdifklocaa.Q Go.Proofs.Ytbceakdifklocaa.Mem Go.Proofs.Ytbceakdifklocaa.DsA Go.Proofs.Ytbceakdifklocaa.DsB Go.Proofs.Ytbceakdifklocaa.DsC Go.Proofs.Ytbceakdifklocaa.DsD Go.Proofs.Ytbceakdifklocaa.DsE Go.Proofs.Ytbceakdifklocaa.DsF Go.Proofs.Ytbceakdifklocaa.DsI Go.Proofs.Ytbceakdifklocaa.DsK Go.Proofs.Ytbceakdifklocaa.DsQ Go.Proofs.Ytbceakdifklocaa.DsY Go.Proofs.Ytbceakdifklocaa.DtB Go.Proofs.Ytbceakdifklocaa.Rg Go.Proofs.Ytbceakdifklocaa.Ap

def enA (t : Tg) : List Value := [.int .u8 t.x0, .int .u8 t.x1, .int .u8 t.x2, .int .u8 t.x3]
def enI (t : Tg) : List Value := [.int .i64 t.bits]
theorem enA_len (t : Tg) : (enA t).length = 4 := rfl
theorem enI_len (t : Tg) : (enI t).length = 1 := rfl
set_option maxRecDepth 100000
set_option maxHeartbeats 1600000 in
theorem rtargets_any (a : Option Addr) (c m : Nat) (a' : Option Addr) (c' n : Nat) (L : List Tg) (w : World) (hn : L.length = n) (hm : L.length = m) (hl : n ≤ 1000) (hA : Seq enA 4 w a L) (hI : Seq enI 1 w a' L) :
    Calls Try.prog 29 #[.slice a m c, .slice a' n c'] w fun e w' => e = .returned (.tuple #[.agg #[.int .i64 (tgD L).tag, .string (tgD L).body], .int .i64 (tgE L)]) ∧ Below w.heap.size w w' := by
  obtain rfl : m = n := by omega
  have HA := Lib.hid hA
  have HI := Lib.hid hI
  have HB0 := Lib.hid (bk1 w 35 #[.int .i64 0, .string { data := #[] }])
  clear hA hI
  go_enter Try.func29, Try.ntmps29
  go_wp2_with fail
  go_loopw [6, 7] (fun s i wr => ∃ (k : Nat) (b : ByteArray), k ≤ m ∧ s = .string b ∧ i = .int .i64 k ∧ Hid (tgB (L.take k) = true ∧ b = str (tgtL (L.take k))) ∧ b.size ≤ 5 * k ∧ Bk w wr [(w.heap.size, 35, #[.int .i64 0, .string { data := #[] }])]) (fun _ i _ => m - (intOf i).toNat)
  case atStart => exact ⟨0, nob, by omega, rfl, rfl, Lib.hid ⟨rfl, rfl⟩, by decide, HB0.out⟩
  case round =>
    clear HB0
    obtain ⟨k, b, hk, rfl, rfl, hI, hbs, hB⟩ := hrel
    by_cases hkl : k < m
    · have t0 : decide ((k : Int) < (m : Int)) = true := by simp; omega
      obtain ⟨t, ht⟩ : ∃ t, L[k]? = some t := ⟨L[k], List.getElem?_eq_getElem (by omega)⟩
      obtain ⟨b1, o1, rfl, l1, hc⟩ := HA.out.below (Nat.le_refl _) hB.be k t ht
      obtain ⟨b2, o2, rfl, l2, hd⟩ := HI.out.below (Nat.le_refl _) hB.be k t ht
      have c0 : wr.cell? ⟨b1, o1 + k * 4, none⟩ = some (.int .u8 t.x0) := hc 0 _ rfl
      have c1 : wr.cell? ⟨b1, o1 + k * 4 + 1, none⟩ = some (.int .u8 t.x1) := hc 1 _ rfl
      have c2 : wr.cell? ⟨b1, o1 + k * 4 + 2, none⟩ = some (.int .u8 t.x2) := hc 2 _ rfl
      have c3 : wr.cell? ⟨b1, o1 + k * 4 + 3, none⟩ = some (.int .u8 t.x3) := hc 3 _ rfl
      have d0 : wr.cell? ⟨b2, o2 + k, none⟩ = some (.int .i64 t.bits) := hd 0 _ rfl
      have hk0 : (0 : Int) ≤ (k : Int) := Int.natCast_nonneg _
      have hk1 : (k : Int) < (m : Int) := by omega
      have kr := fun V => rin_any t.bits 32 V
      have HT := Lib.hid ht
      have HB := Lib.hid hB
      clear ht hB hc hd
      cases hin : in1 32 t.bits with
      | false =>
        have HE := Lib.hid (tgB_no HT.out hin)
        rw [hin] at kr
        have z0 := Blk.cell (HB.out.nth 0 rfl) 0 (v := .int .i64 0) rfl
        have z1 := Blk.cell (HB.out.nth 0 rfl) 1 (v := .string { data := #[] }) rfl
        have zf0 := Blk.frozen (HB.out.nth 0 rfl) 0
        have zf1 := Blk.frozen (HB.out.nth 0 rfl) 1
        clear hin c0 c1 c2 c3
        go_wp2_with fail
        (with_reducible refine (kr _).mono ?_); rintro e1 W1 ⟨rfl, rfl⟩
        clear kr
        go_wp2_with fail
        have hS := (row_set [.int .i64 0, .string ({ data := #[] })] (HB.out.nth 0 rfl)).1
        have hE := below_setCells (Nat.le_refl w.heap.size) [.int .i64 0, .string ({ data := #[] })] 0 w _ HB.out.be
        refine bp_gen (fun V => Blk V w.heap.size 35 #[.int .i64 0, .string ({ data := #[] })] ∧ Below w.heap.size w V) ⟨hS, hE⟩ ?_
        intro V ⟨hV, hVE⟩
        rw [HE.out.1, HE.out.2]
        exact bodyPost_ret (v := .tuple #[.agg #[.int .i64 0, .string ({ data := #[] })], .int .i64 15]) (by simp [results, Try.results29, go_sem, Blk.cell hV 0 (v := .int .i64 0) rfl, Blk.cell hV 1 (v := .string ({ data := #[] })) rfl]) rfl ⟨rfl, hVE⟩
      | true =>
        have hbr : 0 ≤ t.bits ∧ t.bits ≤ 32 := by simpa [in1] using hin
        rw [hin] at kr
        have hnew : (b ++ strOfNums [t.x0, t.x1, t.x2, t.x3]) ++ strOfNums [t.bits] = str (tgtL (L.take (k + 1))) := by
          rw [ByteArray.append_assoc, five_str, hI.out.2, str_app, tgtL_snoc HT.out]
        have HN := Lib.hid (And.intro (tgB_snoc HT.out hI.out.1 hin) hnew)
        have hs1 : (b ++ strOfNums [t.x0, t.x1, t.x2, t.x3]).size ≤ 5 * k + 4 := by rw [ByteArray.size_append, strOfNums_size]; simp only [List.length_cons, List.length_nil]; omega
        have hs2 : ((b ++ strOfNums [t.x0, t.x1, t.x2, t.x3]) ++ strOfNums [t.bits]).size ≤ 5 * (k + 1) := by rw [ByteArray.size_append, strOfNums_size]; simp only [List.length_cons, List.length_nil]; omega
        have hadd : ∀ U : World, (Op.stringOp .add b (strOfNums [t.x0, t.x1, t.x2, t.x3])).run Try.prog U = .ok (.string (b ++ strOfNums [t.x0, t.x1, t.x2, t.x3])) U := fun U => run_string_add_sum U _ _ (by rw [strOfNums_size]; simp only [List.length_cons, List.length_nil]; omega)
        have hadd2 : ∀ U : World, (Op.stringOp .add (b ++ strOfNums [t.x0, t.x1, t.x2, t.x3]) (strOfNums [t.bits])).run Try.prog U = .ok (.string ((b ++ strOfNums [t.x0, t.x1, t.x2, t.x3]) ++ strOfNums [t.bits])) U := fun U => run_string_add_sum U _ _ (by rw [strOfNums_size]; simp only [List.length_cons, List.length_nil]; omega)
        have HTX := Lib.hid (fun V a (h : Ints V a [t.bits]) => text_any a 1 1 [t.bits] V rfl (by simp) h (by simp [inB, in1]; omega))
        have hcv : ∀ p, (convert 78 9 (.slice (some ⟨b1, o1 + k * 4, none⟩) 4 4)).run Try.prog (ext wr p) = .ok (.string (strOfNums [t.x0, t.x1, t.x2, t.x3])) (ext wr p) := fun p =>
          run_convert_bytes_arg (P := Try.prog) _ 78 5 Try.underlying78 Try.underlying5 b1 (o1 + k * 4) 4 4 [t.x0, t.x1, t.x2, t.x3] rfl (fun j hj => by
            match j, hj with
            | 0, _ => exact cell_ext l1 c0 p
            | 1, _ => exact cell_ext l1 c1 p
            | 2, _ => exact cell_ext l1 c2 p
            | 3, _ => exact cell_ext l1 c3 p) _ Try.underlying9
        have f0 := fun p => cell_ext l2 d0 p
        clear hin hnew hI hs1
        go_wp2_with fail
        (with_reducible refine (kr _).mono ?_); rintro e1 W1 ⟨rfl, rfl⟩
        clear kr
        go_wp2_with fail
        clear c0 c1 c2 c3 d0
        refine Go.Proofs.Ytbceakdifklocaa.Rg.region_new_all [(11, newS 1 3 #[.int .i64 t.bits] 0), (12, val (.string (strOfNums [t.bits])))] (by kernel_rfl) (by kernel_rfl) (by kernel_rfl) (lk_cons newS_inh (lk_cons val_inh lk_nil)) (lk_cons newS_mono (lk_cons val_mono lk_nil)) ?_
        intro σ hσ
        have hσv : σ 12 = .string (strOfNums [t.bits]) := hσ 12 _ rfl
        refine Go.Proofs.Ytbceakdifklocaa.Rg.wpN_take 11 (by kernel_rfl) (by kernel_rfl) (by kernel_rfl) ?_
        simp only [List.take_succ_cons, List.take_zero, List.drop_succ_cons, List.drop_zero]
        repeat (go_big_quiet_step (fail))
        refine wpQuiet_nil ?_
        refine wpN_sp _ rfl (by kernel_rfl) (spAt_newS 1 3 #[.int .i64 t.bits] (Nat.zero_le _) (by intro w0; go_simp)) ?_
        simp only [Act.put, List.setIfInBounds_toArray, List.set_cons_zero, List.set_cons_succ]
        refine wpN_sp _ rfl (by kernel_rfl) (spAt_val (f := 42) (args := #[σ 11]) (by intro w0; go_simp) (fun p hd => ?_)) ?_
        · obtain ⟨g, hg, _, hblk⟩ := dep_at hd 11 rfl (by kernel_rfl)
          rw [hg]
          exact HTX.out _ _ (ints_blk hblk rfl)
        simp only [Act.put, List.setIfInBounds_toArray, List.set_cons_zero, List.set_cons_succ]
        rw [hσv]
        refine Go.Proofs.Ytbceakdifklocaa.Rg.wpN_take 2 (by kernel_rfl) (by kernel_rfl) (by kernel_rfl) ?_
        simp only [List.take_succ_cons, List.take_zero, List.drop_succ_cons, List.drop_zero]
        repeat (go_big_quiet_step (fail))
        refine wpQuiet_nil ?_
        refine wpN_nil ?_
        rintro w9 ⟨pq, rfl⟩ _
        have hB2 := HB.out.px pq
        clear HB f0 hcv hadd hadd2 hσ hσv HTX
        go_wp2_with fail
        go_roundw
        case rel => exact ⟨k + 1, _, by omega, rfl, by go_num, HN, hs2, hB2⟩
        case measure => simp [intOf]; omega
    · obtain rfl : k = m := by omega
      have t0 : decide ((k : Int) < (k : Int)) = false := by simp
      obtain ⟨hBt, hbv⟩ := hI.out
      have htk : L.take k = L := by rw [← hn, List.take_length]
      rw [htk] at hBt hbv
      have HB := Lib.hid hB
      have z0 := Blk.cell (HB.out.nth 0 rfl) 0 (v := .int .i64 0) rfl
      have z1 := Blk.cell (HB.out.nth 0 rfl) 1 (v := .string { data := #[] }) rfl
      have zf0 := Blk.frozen (HB.out.nth 0 rfl) 0
      have zf1 := Blk.frozen (HB.out.nth 0 rfl) 1
      by_cases hlong : 51 < k
      · have t1 : decide (51 < (k : Int)) = true := by simp; omega
        have hE : tgE L = 11 := by unfold tgE; rw [hBt, if_pos rfl, if_pos (by omega)]
        have HE := Lib.hid (And.intro hE (show tgD L = ⟨0, nob⟩ by unfold tgD; rw [hE]; rfl))
        clear hI hBt htk hlong hE hB hbv
        go_wp2_with fail
        have hS := (row_set [.int .i64 0, .string ({ data := #[] })] (HB.out.nth 0 rfl)).1
        have hE := below_setCells (Nat.le_refl w.heap.size) [.int .i64 0, .string ({ data := #[] })] 0 w _ HB.out.be
        refine bp_gen (fun V => Blk V w.heap.size 35 #[.int .i64 0, .string ({ data := #[] })] ∧ Below w.heap.size w V) ⟨hS, hE⟩ ?_
        intro V ⟨hV, hVE⟩
        rw [HE.out.1, HE.out.2]
        exact bodyPost_ret (v := .tuple #[.agg #[.int .i64 0, .string ({ data := #[] })], .int .i64 11]) (by simp [results, Try.results29, go_sem, Blk.cell hV 0 (v := .int .i64 0) rfl, Blk.cell hV 1 (v := .string ({ data := #[] })) rfl]) rfl ⟨rfl, hVE⟩
      · have t1 : decide (51 < (k : Int)) = false := by simp; omega
        have hE : tgE L = 0 := by unfold tgE; rw [hBt, if_pos rfl, if_neg (by omega)]
        have HE := Lib.hid (And.intro hE (show tgD L = ⟨15, b⟩ by unfold tgD; rw [hE, hbv]; rfl))
        clear hI hBt htk hlong hE hB hbv
        go_wp2_with fail
        have hS := (row_set [.int .i64 15, .string (b)] (HB.out.nth 0 rfl)).1
        have hE := below_setCells (Nat.le_refl w.heap.size) [.int .i64 15, .string (b)] 0 w _ HB.out.be
        refine bp_gen (fun V => Blk V w.heap.size 35 #[.int .i64 15, .string (b)] ∧ Below w.heap.size w V) ⟨hS, hE⟩ ?_
        intro V ⟨hV, hVE⟩
        rw [HE.out.1, HE.out.2]
        exact bodyPost_ret (v := .tuple #[.agg #[.int .i64 15, .string (b)], .int .i64 0]) (by simp [results, Try.results29, go_sem, Blk.cell hV 0 (v := .int .i64 15) rfl, Blk.cell hV 1 (v := .string (b)) rfl]) rfl ⟨rfl, hVE⟩
end Go.Proofs.Ytbceakdifklocaa.DtC
