/- Targets. -/
import Derived.Test.YtbceakdifklocaaDtA
namespace Go.Proofs.Ytbceakdifklocaa.DtB
open Go.RowKit Go.Proofs.Ytbceakdifklocaa.Q Go.Proofs.Ytbceakdifklocaa.Mem Go.Proofs.Ytbceakdifklocaa.DsA Go.Proofs.Ytbceakdifklocaa.DsB Go.Proofs.Ytbceakdifklocaa.DsC Go.Proofs.Ytbceakdifklocaa.DsD Go.Proofs.Ytbceakdifklocaa.DsE Go.Proofs.Ytbceakdifklocaa.DsF Go.Proofs.Ytbceakdifklocaa.DsI Go.Proofs.Ytbceakdifklocaa.DsK Go.Proofs.Ytbceakdifklocaa.DsQ Go.Proofs.Ytbceakdifklocaa.DsY Go.Proofs.Ytbceakdifklocaa.Rg Go.Proofs.Ytbceakdifklocaa.Ap Go.Proofs.Ytbceakdifklocaa.Bld

/-- a Target -/
structure Tg where
  x0 : Int
  x1 : Int
  x2 : Int
  x3 : Int
  bits : Int
def Tg.vals (t : Tg) : Array Value := #[.int .u8 t.x0, .int .u8 t.x1, .int .u8 t.x2, .int .u8 t.x3, .int .i64 t.bits]
def enT (t : Tg) : List Value := [.int .u8 t.x0, .int .u8 t.x1, .int .u8 t.x2, .int .u8 t.x3, .int .i64 t.bits]
theorem enT_len (t : Tg) : (enT t).length = 5 := rfl
theorem enT_one (t : Tg) : ∀ u ∈ enT t, u.oneCell' = true := by intro u hu; simp [enT] at hu; rcases hu with rfl | rfl | rfl | rfl | rfl <;> rfl
def tgt1 (t : Tg) : List UInt8 := [UInt8.ofNat t.x0.toNat, UInt8.ofNat t.x1.toNat, UInt8.ofNat t.x2.toNat, UInt8.ofNat t.x3.toNat, UInt8.ofNat t.bits.toNat]
def tgtL (L : List Tg) : List UInt8 := L.flatMap tgt1
theorem tgtL_length (L : List Tg) : (tgtL L).length = 5 * L.length := by
  induction L with
  | nil => rfl
  | cons t l ih => simp only [tgtL, List.flatMap_cons, List.length_append, List.length_cons] at ih ⊢; rw [ih]; simp [tgt1]; omega
def tgB (L : List Tg) : Bool := L.all fun t => in1 32 t.bits
def tgE (L : List Tg) : Int := if tgB L then (if 51 < L.length then 11 else 0) else 15
def tgD (L : List Tg) : Dc := if tgE L = 0 then ⟨15, str (tgtL L)⟩ else ⟨0, nob⟩
theorem tgtL_snoc {L : List Tg} {k : Nat} {t : Tg} (h : L[k]? = some t) : tgtL (L.take (k + 1)) = tgtL (L.take k) ++ tgt1 t := by rw [List.take_add_one, h]; simp [tgtL]
theorem tgB_snoc {L : List Tg} {k : Nat} {t : Tg} (h : L[k]? = some t) (h1 : tgB (L.take k) = true) (h2 : in1 32 t.bits = true) : tgB (L.take (k + 1)) = true := by
  rw [List.take_add_one, h]; unfold tgB at *; rw [List.all_append, h1]; simp [h2]
theorem tgB_no {L : List Tg} {k : Nat} {t : Tg} (h : L[k]? = some t) (h2 : in1 32 t.bits = false) : tgE L = 15 ∧ tgD L = ⟨0, nob⟩ := by
  have hB : tgB L = false := by
    cases hb : tgB L with
    | false => rfl
    | true => have := List.all_eq_true.1 hb t (List.mem_of_getElem? h); rw [h2] at this; cases this
  have hE : tgE L = 15 := by unfold tgE; rw [hB]; rfl
  exact ⟨hE, by unfold tgD; rw [hE]; rfl⟩
theorem five_str (t : Tg) : strOfNums [t.x0, t.x1, t.x2, t.x3] ++ strOfNums [t.bits] = str (tgt1 t) := by
  rw [son_append]; rfl

set_option maxRecDepth 100000
set_option maxHeartbeats 1600000 in
theorem targets_any (a : Option Addr) (c n : Nat) (L : List Tg) (w : World) (hn : L.length = n) (hl : n ≤ 1000) (hL : Seq enT 5 w a L) :
    Calls Try.prog 28 #[.slice a n c] w fun e w' => e = .returned (.tuple #[.agg #[.int .i64 (tgD L).tag, .string (tgD L).body], .int .i64 (tgE L)]) ∧ Below w.heap.size w w' := by
  have HL := Lib.hid hL
  have hbx := bk1 w 30 #[.int .i64 0, .string { data := #[] }]
  have HB0 := Lib.hid (hbx.al (.cells #[.pointer none, .slice none 0 0] 105))
  have hI0 : IsB (w.heap.size + 1) (w.heap.size + 1) [] ((w.alloc (.cells #[.int .i64 0, .string { data := #[] }] 30)).alloc (.cells #[.pointer none, .slice none 0 0] 105)) := by
    have := Lib.fresh_isBuilder 105 5 (w.alloc (.cells #[.int .i64 0, .string { data := #[] }] 30))
    simpa using this
  have HI0 := Lib.hid hI0
  clear hL hbx hI0
  go_enter Try.func28, Try.ntmps28
  go_wp2_with fail
  go_loopw [9] (fun i wr => ∃ k : Nat, k ≤ n ∧ i = .int .i64 k ∧ Hid (tgB (L.take k) = true) ∧ IsB (w.heap.size + 1) (w.heap.size + 1) (Lib.byteCells (tgtL (L.take k))) wr ∧ w.heap.size + 1 < wr.heap.size ∧ Bk w wr [(w.heap.size, 30, #[.int .i64 0, .string { data := #[] }])]) (fun i _ => n - (intOf i).toNat)
  case atStart => exact ⟨0, by omega, rfl, Lib.hid rfl, HI0.out, by simp, HB0.out⟩
  case round =>
    clear HB0 HI0
    obtain ⟨k, hk, rfl, hI, hBd, hsz, hB⟩ := hrel
    by_cases hkl : k < n
    · have t0 : decide ((k : Int) < (n : Int)) = true := by simp; omega
      obtain ⟨t, ht⟩ : ∃ t, L[k]? = some t := ⟨L[k], List.getElem?_eq_getElem (by omega)⟩
      obtain ⟨b1, o1, rfl, l1, hc⟩ := HL.out.below (Nat.le_refl _) hB.be k t ht
      have c0 : wr.cell? ⟨b1, o1 + k * 5, none⟩ = some (.int .u8 t.x0) := hc 0 _ rfl
      have c1 : wr.cell? ⟨b1, o1 + k * 5 + 1, none⟩ = some (.int .u8 t.x1) := hc 1 _ rfl
      have c2 : wr.cell? ⟨b1, o1 + k * 5 + 2, none⟩ = some (.int .u8 t.x2) := hc 2 _ rfl
      have c3 : wr.cell? ⟨b1, o1 + k * 5 + 3, none⟩ = some (.int .u8 t.x3) := hc 3 _ rfl
      have c4 : wr.cell? ⟨b1, o1 + k * 5 + 4, none⟩ = some (.int .i64 t.bits) := hc 4 _ rfl
      have hk0 : (0 : Int) ≤ (k : Int) := Int.natCast_nonneg _
      have hk1 : (k : Int) < (n : Int) := by omega
      have kw := fun V g hg => within_new 32 V [t.bits] 1 g #[.int .i64 t.bits] rfl rfl hg (by simp)
      have HT := Lib.hid ht
      have HB := Lib.hid hB
      have HBd := Lib.hid hBd
      clear ht hB hBd hc
      cases hin : in1 32 t.bits with
      | false =>
        have HE := Lib.hid (tgB_no HT.out hin)
        rw [show inB 32 [t.bits] = false by simp [inB, hin]] at kw
        clear hin
        go_wp2_with fail
        (with_reducible refine (kw _ _ (by simp)).mono ?_); rintro e1 W1 ⟨rfl, hb1⟩
        have HB1 := Lib.hid ((HB.out.al (.cells t.vals 71)).below hb1)
        have z0 := Blk.cell (HB1.out.nth 0 rfl) 0 (v := .int .i64 0) rfl
        have z1 := Blk.cell (HB1.out.nth 0 rfl) 1 (v := .string { data := #[] }) rfl
        have zf0 := Blk.frozen (HB1.out.nth 0 rfl) 0
        have zf1 := Blk.frozen (HB1.out.nth 0 rfl) 1
        clear kw hb1 c0 c1 c2 c3 c4 HB
        go_wp2_with fail
        have hS := (row_set [.int .i64 0, .string ({ data := #[] })] (HB1.out.nth 0 rfl)).1
        have hE := below_setCells (Nat.le_refl w.heap.size) [.int .i64 0, .string ({ data := #[] })] 0 w _ HB1.out.be
        refine bp_gen (fun V => Blk V w.heap.size 30 #[.int .i64 0, .string ({ data := #[] })] ∧ Below w.heap.size w V) ⟨hS, hE⟩ ?_
        intro V ⟨hV, hVE⟩
        rw [HE.out.1, HE.out.2]
        exact bodyPost_ret (v := .tuple #[.agg #[.int .i64 0, .string ({ data := #[] })], .int .i64 15]) (by simp [results, Try.results28, go_sem, Blk.cell hV 0 (v := .int .i64 0) rfl, Blk.cell hV 1 (v := .string ({ data := #[] })) rfl]) rfl ⟨rfl, hVE⟩
      | true =>
        have hbr : 0 ≤ t.bits ∧ t.bits ≤ 32 := by simpa [in1] using hin
        have HI := Lib.hid (tgB_snoc HT.out hI.out hin)
        rw [show inB 32 [t.bits] = true by simp [inB, hin]] at kw
        have q1 : IntKind.u8.wrap t.bits = t.bits := by rw [IntKind.wrap_u8]; omega
        have hadd : ∀ U : World, (Op.stringOp .add (strOfNums [t.x0, t.x1, t.x2, t.x3]) (strOfNums [t.bits])).run Try.prog U = .ok (.string (str (tgt1 t))) U := fun U => by rw [← five_str]; exact run_string_add_sum U _ _ (by rw [strOfNums_size, strOfNums_size]; simp)
        clear hin hI
        go_wp2_with fail
        (with_reducible refine (kw _ _ (by simp)).mono ?_); rintro e1 W1 ⟨rfl, hb1⟩
        have hb0 : Below wr.heap.size wr W1 := ((Below.refl _ _).alloc (Nat.le_refl _) (.cells t.vals 71)).trans (hb1.mono (by simp))
        have HB1 := Lib.hid (HB.out.below hb0)
        have hX : Blk W1 wr.heap.size 71 #[.int .u8 t.x0, .int .u8 t.x1, .int .u8 t.x2, .int .u8 t.x3, .int .i64 t.bits] := Blk.below (Blk.new wr 71 _) hb1 (by simp)
        have HX := Lib.hid hX
        have HBd1 := Lib.hid (isb_below HBd.out hb0)
        have hsz1 : w.heap.size + 1 < W1.heap.size := Nat.lt_of_lt_of_le hsz hb0.size
        have f4 := fun p => Blk.cell (blk_ext hX p) 4 (v := .int .i64 t.bits) rfl
        have hcv : ∀ p, (convert 78 9 (.slice (some ⟨wr.heap.size, 0, none⟩) 4 4)).run Try.prog (ext W1 p) = .ok (.string (strOfNums [t.x0, t.x1, t.x2, t.x3])) (ext W1 p) := fun p =>
          run_convert_bytes_arg (P := Try.prog) _ 78 5 Try.underlying78 Try.underlying5 wr.heap.size 0 4 4 [t.x0, t.x1, t.x2, t.x3] rfl (fun j hj => by
            match j, hj with
            | 0, _ => exact Blk.cell (blk_ext hX p) 0 rfl
            | 1, _ => exact Blk.cell (blk_ext hX p) 1 rfl
            | 2, _ => exact Blk.cell (blk_ext hX p) 2 rfl
            | 3, _ => exact Blk.cell (blk_ext hX p) 3 rfl) _ Try.underlying9
        clear kw hb1 c0 c1 c2 c3 c4 HB HBd hX hb0
        go_wp2_with fail
        refine Go.Proofs.Ytbceakdifklocaa.Rg.region_new [(6, newS 1 5 #[.int .u8 t.bits] 0), (7, val (.string (strOfNums [t.bits])))] 9 (by kernel_rfl) (by kernel_rfl) (by kernel_rfl) (lk_cons newS_inh (lk_cons val_inh lk_nil)) (lk_cons newS_mono (lk_cons val_mono lk_nil)) ?_
        intro σ hσ
        simp only [List.take_succ_cons, List.take_zero, List.drop_succ_cons, List.drop_zero]
        have hσv : σ 7 = .string (strOfNums [t.bits]) := hσ 7 _ rfl
        refine Go.Proofs.Ytbceakdifklocaa.Rg.wpN_take 6 (by kernel_rfl) (by kernel_rfl) (by kernel_rfl) ?_
        simp only [List.take_succ_cons, List.take_zero, List.drop_succ_cons, List.drop_zero]
        repeat (go_big_quiet_step (fail))
        refine wpQuiet_nil ?_
        refine wpN_sp _ rfl (by kernel_rfl) (spAt_newS 1 5 #[.int .u8 t.bits] (Nat.zero_le _) (by intro w0; go_simp)) ?_
        simp only [Act.put, List.setIfInBounds_toArray, List.set_cons_zero, List.set_cons_succ]
        refine wpN_sp _ rfl (by kernel_rfl) (spAt_read (fun p hd => ?_)) ?_
        · obtain ⟨g, hg, _, hblk⟩ := dep_at hd 6 rfl (by kernel_rfl)
          have hcv2 := run_convert_bytes_arg (P := Try.prog) (ext W1 p) 78 5 Try.underlying78 Try.underlying5 g 0 1 1 [t.bits] rfl (fun j hj => by
            match j, hj with
            | 0, _ => exact Blk.cell hblk 0 rfl) _ Try.underlying9
          rw [hg]
          go_simp
        simp only [Act.put, List.setIfInBounds_toArray, List.set_cons_zero, List.set_cons_succ]
        rw [hσv]
        refine Go.Proofs.Ytbceakdifklocaa.Rg.wpN_take 1 (by kernel_rfl) (by kernel_rfl) (by kernel_rfl) ?_
        simp only [List.take_succ_cons, List.take_zero, List.drop_succ_cons, List.drop_zero]
        repeat (go_big_quiet_step (fail))
        refine wpQuiet_nil ?_
        refine wpN_nil ?_
        rintro w9 ⟨pq, rfl⟩ _
        have hbx := below_ext W1 pq
        have HB2 := Lib.hid (HB1.out.px pq)
        have hsz2 : w.heap.size + 1 < (ext W1 pq).heap.size := Nat.lt_of_lt_of_le hsz1 hbx.size
        have kw := write_any (w.heap.size + 1) (w.heap.size + 1) (Lib.byteCells (tgtL (L.take k))) (str (tgt1 t)) (ext W1 pq) (isb_below HBd1.out hbx) (by rw [Lib.byteCells, List.length_map, str_size, tgtL_length, List.length_take]; simp [tgt1]; omega) (by omega)
        have hcell : Lib.byteCells (tgtL (L.take k)) ++ Lib.strCells (str (tgt1 t)) = Lib.byteCells (tgtL (L.take (k + 1))) := by
          rw [tgtL_snoc HT.out, str_bytes]
          simp [Lib.byteCells, str]
        rw [hcell] at kw
        clear hσ hσv f4 hcv hadd q1 HB1 HBd1 hcell hbx
        go_wp2_with fail
        (with_reducible refine (kw).mono ?_); rintro e1 W2 ⟨rfl, hI3, hb3⟩
        have HB3 := Lib.hid (HB2.out.belowB (B := w.heap.size + 1) (by omega) (by simp) hb3)
        have hsz3 : w.heap.size + 1 < W2.heap.size := Nat.lt_of_lt_of_le hsz2 hb3.size
        clear kw HB2 hb3
        go_wp2_with fail
        go_roundw
        case rel => exact ⟨k + 1, by omega, by go_num, HI, hI3, hsz3, HB3.out⟩
        case measure => simp [intOf]; omega
    · obtain rfl : k = n := by omega
      have t0 : decide ((k : Int) < (k : Int)) = false := by simp
      have hBt : tgB L = true := by have := hI.out; rw [← hn, List.take_length] at this; exact this
      have htk : L.take k = L := by rw [← hn, List.take_length]
      rw [htk] at hBd
      by_cases hlong : 51 < k
      · have t1 : decide (51 < (k : Int)) = true := by simp; omega
        have hE : tgE L = 11 := by unfold tgE; rw [hBt, if_pos rfl, if_pos (by omega)]
        have HE := Lib.hid (And.intro hE (show tgD L = ⟨0, nob⟩ by unfold tgD; rw [hE]; rfl))
        have HB1 := Lib.hid hB
        have z0 := Blk.cell (HB1.out.nth 0 rfl) 0 (v := .int .i64 0) rfl
        have z1 := Blk.cell (HB1.out.nth 0 rfl) 1 (v := .string { data := #[] }) rfl
        have zf0 := Blk.frozen (HB1.out.nth 0 rfl) 0
        have zf1 := Blk.frozen (HB1.out.nth 0 rfl) 1
        clear hI hBt htk hlong hE hB hBd
        go_wp2_with fail
        have hS := (row_set [.int .i64 0, .string ({ data := #[] })] (HB1.out.nth 0 rfl)).1
        have hE := below_setCells (Nat.le_refl w.heap.size) [.int .i64 0, .string ({ data := #[] })] 0 w _ HB1.out.be
        refine bp_gen (fun V => Blk V w.heap.size 30 #[.int .i64 0, .string ({ data := #[] })] ∧ Below w.heap.size w V) ⟨hS, hE⟩ ?_
        intro V ⟨hV, hVE⟩
        rw [HE.out.1, HE.out.2]
        exact bodyPost_ret (v := .tuple #[.agg #[.int .i64 0, .string ({ data := #[] })], .int .i64 11]) (by simp [results, Try.results28, go_sem, Blk.cell hV 0 (v := .int .i64 0) rfl, Blk.cell hV 1 (v := .string ({ data := #[] })) rfl]) rfl ⟨rfl, hVE⟩
      · have t1 : decide (51 < (k : Int)) = false := by simp; omega
        have hE : tgE L = 0 := by unfold tgE; rw [hBt, if_pos rfl, if_neg (by omega)]
        have HE := Lib.hid (And.intro hE (show tgD L = ⟨15, str (tgtL L)⟩ by unfold tgD; rw [hE]; rfl))
        have ks := str_any (w.heap.size + 1) (w.heap.size + 1) (tgtL L) wr hBd (by omega)
        clear hI hBt htk hlong hE hBd
        go_wp2_with fail
        (with_reducible refine (ks).mono ?_); rintro e1 W1 ⟨rfl, hb1⟩
        have HB1 := Lib.hid (hB.belowB (B := w.heap.size + 1) (by omega) (by simp) hb1)
        have z0 := Blk.cell (HB1.out.nth 0 rfl) 0 (v := .int .i64 0) rfl
        have z1 := Blk.cell (HB1.out.nth 0 rfl) 1 (v := .string { data := #[] }) rfl
        have zf0 := Blk.frozen (HB1.out.nth 0 rfl) 0
        have zf1 := Blk.frozen (HB1.out.nth 0 rfl) 1
        clear ks hB hb1
        go_wp2_with fail
        have hS := (row_set [.int .i64 15, .string (str (tgtL L))] (HB1.out.nth 0 rfl)).1
        have hE := below_setCells (Nat.le_refl w.heap.size) [.int .i64 15, .string (str (tgtL L))] 0 w _ HB1.out.be
        refine bp_gen (fun V => Blk V w.heap.size 30 #[.int .i64 15, .string (str (tgtL L))] ∧ Below w.heap.size w V) ⟨hS, hE⟩ ?_
        intro V ⟨hV, hVE⟩
        rw [HE.out.1, HE.out.2]
        exact bodyPost_ret (v := .tuple #[.agg #[.int .i64 15, .string (str (tgtL L))], .int .i64 0]) (by simp [results, Try.results28, go_sem, Blk.cell hV 0 (v := .int .i64 15) rfl, Blk.cell hV 1 (v := .string (str (tgtL L))) rfl]) rfl ⟨rfl, hVE⟩
end Go.Proofs.Ytbceakdifklocaa.DtB
