/- the document's Split. -/
import Derived.Test.YtpigkccfepmmgaaSpP
import Derived.Test.YtpigkccfepmmgaaRpA
import Derived.Test.YtpigkccfepmmgaaSeB
namespace Go.Proofs.Ytpigkccfepmmgaa.RpC
open Go Go.RowKit Go.Proofs.Ytpigkccfepmmgaa.Q Go.Proofs.Ytpigkccfepmmgaa.Mem Go.Proofs.Ytpigkccfepmmgaa.Rg Go.Proofs.Ytpigkccfepmmgaa.Ap Go.Proofs.Ytpigkccfepmmgaa.St Go.Proofs.Ytpigkccfepmmgaa.SeA Go.Proofs.Ytpigkccfepmmgaa.SeB Go.Proofs.Ytpigkccfepmmgaa.SeE Go.Proofs.Ytpigkccfepmmgaa.SpA Go.Proofs.Ytpigkccfepmmgaa.SpB Go.Proofs.Ytpigkccfepmmgaa.RpA
/-- strings, one cell each -/
def enS (s : ByteArray) : List Value := [.string s]
theorem enS_len (s : ByteArray) : (enS s).length = 1 := rfl
theorem elemS : Elem Try.prog 67 9 1 16 := elem_of Try.underlying67 (z := .string nob) (by kernel_rfl) rfl (by decide)
/-- the first parts; the rest behind them -/
def pts (b : ByteArray) (k : Nat) : List ByteArray := (List.range k).map (SpA.part b)
def rs (b : ByteArray) (k : Nat) : ByteArray := b.extract (4084 * k) b.size
theorem pts_snoc (b : ByteArray) (k : Nat) : pts b (k + 1) = pts b k ++ [SpA.part b k] := by simp [pts, List.range_succ]
theorem pts_len (b : ByteArray) (k : Nat) : (pts b k).length = k := by simp [pts]
theorem pts_get (b : ByteArray) {k n : Nat} (h : k < n) : (pts b n)[k]? = some (SpA.part b k) := by unfold pts; rw [List.getElem?_map, List.getElem?_range h]; rfl
theorem rs_zero (b : ByteArray) : rs b 0 = b := by
  apply bl_inj; unfold rs; rw [ext_bl]; simp only [Nat.mul_zero, List.drop_zero, Nat.sub_zero]; exact List.take_of_length_le (by rw [bl_len]; exact Nat.le_refl _)
theorem rs_size (b : ByteArray) (k : Nat) : (rs b k).size = b.size - 4084 * k := by unfold rs; rw [ByteArray.size_extract]; omega
theorem rs_take (b : ByteArray) (k : Nat) : (rs b k).extract 0 4084 = SpA.part b k := by
  apply bl_inj
  unfold rs SpA.part
  rw [ext_bl, ext_bl, ext_bl, List.drop_zero, List.take_take]
  refine List.take_eq_take_iff.2 ?_
  rw [List.length_drop, bl_len]; omega
theorem rs_drop (b : ByteArray) (k : Nat) : (rs b k).extract 4084 (rs b k).size = rs b (k + 1) := by
  apply bl_inj
  rw [ext_bl, rs_size]
  unfold rs
  rw [ext_bl, ext_bl, List.drop_take, List.drop_drop, List.take_take, show 4084 * (k + 1) = 4084 * k + 4084 by omega]
  refine List.take_eq_take_iff.2 ?_
  rw [List.length_drop, bl_len]; omega
theorem rs_last (b : ByteArray) (k : Nat) (h : b.size ≤ 4084 * (k + 1)) : rs b k = SpA.part b k := by unfold rs SpA.part; rw [Nat.min_eq_right h]
def szV : Value → Nat
  | .string s => s.size
  | _ => 0
set_option maxRecDepth 100000
set_option maxHeartbeats 3200000 in
theorem rsplit_any (t e v : Int) (b : ByteArray) (w : World) (hs : b.size ≤ 9000) :
    Calls Try.prog 17 #[.int .i64 t, .int .i64 e, .int .i64 v, .string b] w fun e' w' => (∃ a n c, e' = .returned (.tuple #[.slice a n c, .int .i64 (splE t e v b)]) ∧ (splL t e v b).length = n ∧ Seq enSc 8 w' a (splL t e v b)) ∧ Below w.heap.size w w' := by
  obtain ⟨M, hMe⟩ : ∃ M, many b.size = M := ⟨_, rfl⟩
  have hm3 : M ≤ 3 := by rw [← hMe]; unfold many; omega
  have hm1 : 1 ≤ M := by rw [← hMe]; exact many_pos _
  have HM := Lib.hid hMe
  have HS := Lib.hid hs
  clear hMe hs
  go_enter Try.func17, Try.ntmps17
  go_wp2_with fail
  go_loopw [3, 10] (fun sv out wr => ∃ k : Nat, k < M ∧ sv = .string (rs b k) ∧ wr.ownsRow w.heap.size 9 1 out k (flat enS (pts b k)) ∧ Below w.heap.size w wr) (fun sv _ _ => szV sv)
  case atStart => exact ⟨0, by omega, by rw [rs_zero], World.ownsRow_nil _ _ _ _, Below.refl _ _⟩
  case round =>
    obtain ⟨k, hk, rfl, hown, hb⟩ := hrel
    have hsz := rs_size b k
    have hml : M = max 1 ((b.size + 4083) / 4084) := HM.out.symm
    have hbs := hb.size
    by_cases hkm : 4084 < (rs b k).size
    · have hk1 : k + 1 < M := by rw [hml]; omega
      have hs1 : ∀ V : World, (Instr.slice 9 (.string (rs b k)) none (some (.int .i64 4084)) none).run Try.prog V = .ok (.string (SpA.part b k)) V := fun V => by
        rw [run_slice_string_h V 9 _ Try.underlying9 .i64 4084 (by omega) (by omega), show (4084 : Int).toNat = 4084 from rfl, rs_take]
      have hs2 : ∀ V : World, (Instr.slice 9 (.string (rs b k)) (some (.int .i64 4084)) none none).run Try.prog V = .ok (.string (rs b (k + 1))) V := fun V => by
        rw [run_slice_string_l V 9 _ Try.underlying9 .i64 4084 (by omega) (by omega), show (4084 : Int).toNat = 4084 from rfl, rs_drop]
      have hsz2 := rs_size b (k + 1)
      have HSZ := Lib.hid (show (rs b (k + 1)).size < (rs b k).size by omega)
      have HPS := Lib.hid (pts_snoc b k)
      obtain ⟨X, hX⟩ : ∃ X, rs b k = X := ⟨_, rfl⟩
      obtain ⟨Y, hY⟩ : ∃ Y, rs b (k + 1) = Y := ⟨_, rfl⟩
      have HY := Lib.hid hY
      obtain ⟨Z, hZ⟩ : ∃ Z, SpA.part b k = Z := ⟨_, rfl⟩
      rw [hX] at hs1 hs2 hkm HSZ ⊢
      rw [hY] at hs2 HSZ
      rw [hZ] at hs1 HPS
      have t0 : decide ((4084 : Int) < (X.size : Int)) = true := by simp; omega
      have hown2 := hown.alloc (.cells #[.string Z] 9)
      have HB := Lib.hid hb
      clear hX hY hZ hsz hml hsz2 hown hb hkm
      go_wp2_with (first
        | (at_builtin; (refine wpList_app rfl _ _ rfl elemS rfl hown2 rfl rfl (blk_news (Blk.new wr 9 #[.string Z])) (by simp [Value.oneCell']) (by omega) (by unfold maxLen; omega) (by simp; omega) ?_)
           intro v9 w8 hown9 hb8)
        | fail)
      have hown3 : w8.ownsRow w.heap.size 9 1 v9 (k + 1) (flat enS (pts b (k + 1))) := by
        rw [HPS.out, flat_app]; exact hown9
      have hb9 : Below w.heap.size w w8 := (HB.out.alloc (by omega) _).trans hb8
      clear hown9 hown2 hb8
      go_roundw
      case rel => exact ⟨k + 1, by omega, by rw [HY.out], hown3, hb9⟩
      case measure => simpa [szV] using HSZ.out
    · have hk1 : k + 1 = M := by rw [hml]; omega
      have hb1 : b.size ≤ 4084 * (k + 1) := by omega
      obtain rfl : M = k + 1 := hk1.symm
      rw [rs_last b k hb1] at hkm ⊢
      have HPS := Lib.hid (pts_snoc b k)
      obtain ⟨Z, hZ⟩ : ∃ Z, SpA.part b k = Z := ⟨_, rfl⟩
      rw [hZ] at HPS hkm ⊢
      have t0 : decide ((4084 : Int) < (Z.size : Int)) = false := by simp; omega
      have t1 : decide ((256 : Int) < ((k + 1 : Nat) : Int)) = false := by simp; omega
      have t1' : decide ((256 : Int) < (k : Int) + 1) = false := by simp; omega
      have hown2 := hown.alloc (.cells #[.string Z] 9)
      have HB := Lib.hid hb
      clear hZ hsz hml hown hb hkm hb1
      go_wp2_with (first
        | (at_builtin; (refine wpList_app rfl _ _ rfl elemS rfl hown2 rfl rfl (blk_news (Blk.new wr 9 #[.string Z])) (by simp [Value.oneCell']) (by omega) (by unfold maxLen; omega) (by simp; omega) ?_)
           intro v9 w8 hown9 hb8
           obtain ⟨a9, c9, rfl⟩ := own_form hown9)
        | fail)
      have hown3 : w8.ownsRow w.heap.size 9 1 (.slice a9 (k + 1) c9) (k + 1) (flat enS (pts b (k + 1))) := by
        rw [HPS.out, flat_app]; exact hown9
      have HBW := Lib.hid (show Below w.heap.size w w8 from (HB.out.alloc (by omega) _).trans hb8)
      clear hown9 hown2 hb8 HPS HB t1 t1' t0
      obtain ⟨M, hM⟩ : ∃ M, k + 1 = M := ⟨_, rfl⟩
      rw [hM] at hown3 hm3 hm1 HM ⊢
      have HQ := Lib.hid (own_seq enS_len hown3 (pts_len b M))
      have hw8 := HBW.out.size
      clear hown3 hM hbs hk
      go_loopw [11, 12] (fun out i wr => ∃ j : Nat, j ≤ M ∧ i = .int .i64 j ∧ wr.ownsRow w8.heap.size 28 8 out j (flat enSc ((List.range j).map (secS t e v b))) ∧ Below w8.heap.size w8 wr ∧ (0 < j → splRng t e v)) (fun _ i _ => M - (intOf i).toNat)
      case atStart => exact ⟨0, by omega, rfl, World.ownsRow_nil _ _ _ _, Below.refl _ _, fun h => by omega⟩
      case round =>
        obtain ⟨j, hj, rfl, hown, hb, hpos⟩ := hrel
        by_cases hjM : j < M
        · have t0 : decide ((j : Int) < (M : Int)) = true := by simp; omega
          obtain ⟨g1, o1, rfl, hlt1, hc1⟩ := HQ.out.below (Nat.le_refl _) hb j _ (pts_get b hjM)
          have c0 : wr.cell? ⟨g1, o1 + j, none⟩ = some (.string (SpA.part b j)) := by have := hc1 0 _ rfl; rwa [off_eq, Nat.mul_one] at this
          have hck := sec_chk (t := t) (e := e) (v := v) (b := b) (i := j) (by rw [HM.out]; exact hjM) (by rw [HM.out]; omega)
          have kc := fun V => rcheck_any (secS t e v b j) V
          rw [hck] at kc
          have hsec : secS t e v b j = ⟨t, false, e, v, true, (j : Int), (M : Int) - 1, SpA.part b j⟩ := by unfold secS; rw [HM.out]
          rw [hsec] at kc
          unfold Sc.vals at kc
          dsimp only at kc
          obtain ⟨X, hX⟩ : ∃ X, SpA.part b j = X := ⟨_, rfl⟩
          rw [hX] at c0 kc hsec
          have HSEC := Lib.hid hsec
          have k0 : (0 : Int) ≤ (j : Int) := Int.natCast_nonneg _
          have k1 : (j : Int) < (M : Int) := by omega
          have k2 : (M : Int) ≤ 3 := by omega
          have HB := Lib.hid hb
          have hbs := hb.size
          clear hc1 hck hsec hX hb hlt1 hpos
          by_cases hr : splRng t e v
          · rw [if_pos hr] at kc
            have HR := Lib.hid hr
            clear hr
            go_wp2_with fail
            (with_reducible refine (kc _).mono ?_); rintro e1 W1 ⟨rfl, hb1⟩
            have hB1 := (bk1 wr 28 #[.int .i64 t, .bool false, .int .i64 e, .int .i64 v, .bool true, .int .i64 (j : Int), .int .i64 ((M : Int) - 1), .string X]).below hb1
            have HB1 := Lib.hid hB1
            have hown1 := own_below hown hB1.be
            have d0 := Blk.cell (HB1.out.nth 0 rfl) 0 (v := .int .i64 t) rfl
            have d1 := Blk.cell (HB1.out.nth 0 rfl) 1 (v := .bool false) rfl
            have d2 := Blk.cell (HB1.out.nth 0 rfl) 2 (v := .int .i64 e) rfl
            have d3 := Blk.cell (HB1.out.nth 0 rfl) 3 (v := .int .i64 v) rfl
            have d4 := Blk.cell (HB1.out.nth 0 rfl) 4 (v := .bool true) rfl
            have d5 := Blk.cell (HB1.out.nth 0 rfl) 5 (v := .int .i64 (j : Int)) rfl
            have d6 := Blk.cell (HB1.out.nth 0 rfl) 6 (v := .int .i64 ((M : Int) - 1)) rfl
            have d7 := Blk.cell (HB1.out.nth 0 rfl) 7 (v := .string X) rfl
            have hbs1 := HB1.out.be.size
            have hown2 := hown1.alloc (.cells #[.int .i64 t, .bool false, .int .i64 e, .int .i64 v, .bool true, .int .i64 (j : Int), .int .i64 ((M : Int) - 1), .string X] 28)
            clear hB1 hb1 kc c0 hown hown1
            go_wp2_with (first
              | (at_builtin; (refine wpList_app rfl _ _ rfl elemTR rfl hown2 rfl rfl (blk_news (Blk.new W1 28 #[.int .i64 t, .bool false, .int .i64 e, .int .i64 v, .bool true, .int .i64 (j : Int), .int .i64 ((M : Int) - 1), .string X])) (by simp [Value.oneCell']) (by omega) (by unfold maxLen; omega) (by simp; omega) ?_)
                 intro v9 w7 hown9 hb8)
              | fail)
            have hown3 : w7.ownsRow w8.heap.size 28 8 v9 (j + 1) (flat enSc ((List.range (j + 1)).map (secS t e v b))) := by
              rw [List.range_succ, List.map_append, flat_app, List.map_singleton, HSEC.out]; exact hown9
            have hb3 : Below w8.heap.size w8 w7 := ((HB.out.trans (HB1.out.be.mono hbs)).alloc (by omega) _).trans hb8
            clear hown9 hown2 hb8 d0 d1 d2 d3 d4 d5 d6 d7
            go_roundw
            case rel => exact ⟨j + 1, by omega, by go_num, hown3, hb3, fun _ => HR.out⟩
            case measure => simp [intOf]; omega
          · rw [if_neg hr] at kc
            have hE : splE t e v b = 15 := by unfold splE; rw [HM.out, if_neg (by omega), if_neg hr]
            have HE := Lib.hid (show splE t e v b = 15 ∧ splL t e v b = [] from ⟨hE, by unfold splL; rw [if_neg (by rw [hE]; decide)]⟩)
            clear hr hE
            go_wp2_with fail
            (with_reducible refine (kc _).mono ?_); rintro e1 W1 ⟨rfl, hb1⟩
            have HB1 := Lib.hid ((bk1 wr 28 #[.int .i64 t, .bool false, .int .i64 e, .int .i64 v, .bool true, .int .i64 (j : Int), .int .i64 ((M : Int) - 1), .string X]).below hb1)
            have d0 := Blk.cell (HB1.out.nth 0 rfl) 0 (v := .int .i64 t) rfl
            have d1 := Blk.cell (HB1.out.nth 0 rfl) 1 (v := .bool false) rfl
            have d2 := Blk.cell (HB1.out.nth 0 rfl) 2 (v := .int .i64 e) rfl
            have d3 := Blk.cell (HB1.out.nth 0 rfl) 3 (v := .int .i64 v) rfl
            have d4 := Blk.cell (HB1.out.nth 0 rfl) 4 (v := .bool true) rfl
            have d5 := Blk.cell (HB1.out.nth 0 rfl) 5 (v := .int .i64 (j : Int)) rfl
            have d6 := Blk.cell (HB1.out.nth 0 rfl) 6 (v := .int .i64 ((M : Int) - 1)) rfl
            have d7 := Blk.cell (HB1.out.nth 0 rfl) 7 (v := .string X) rfl
            clear hb1
            go_wp2_with fail
            (with_reducible refine (kc _).mono ?_); rintro e1 W2 ⟨rfl, hb2⟩
            have hEnd : Below w.heap.size w W2 := HBW.out.trans ((HB.out.trans ((HB1.out.below hb2).be.mono hbs)).mono hw8)
            clear hb2 kc c0 d0 d1 d2 d3 d4 d5 d6 d7
            go_wp2_with fail
            go_ret2
            exact ⟨⟨none, 0, 0, by rw [HE.out.1]; rfl, by rw [HE.out.2]; rfl, by rw [HE.out.2]; exact Seq.nil⟩, hEnd⟩
        · obtain rfl : j = M := by omega
          have t0 : decide ((j : Int) < (j : Int)) = false := by simp
          have hr : splRng t e v := hpos (by omega)
          have hE : splE t e v b = 0 := by unfold splE; rw [HM.out, if_neg (by omega), if_pos hr]
          have HE := Lib.hid (show splE t e v b = 0 ∧ splL t e v b = (List.range j).map (secS t e v b) from ⟨hE, by unfold splL; rw [if_pos hE, HM.out]⟩)
          obtain ⟨a', c', rfl⟩ := own_form hown
          have HSQ := Lib.hid (own_seq enSc_len hown (by simp))
          have HEnd := Lib.hid (HBW.out.trans (hb.mono hw8))
          clear hown hb hr hE hpos
          go_wp2_with fail
          go_ret2
          exact ⟨⟨a', j, c', by rw [HE.out.1]; rfl, by rw [HE.out.2]; simp, by rw [HE.out.2]; exact HSQ.out⟩, HEnd.out⟩
end Go.Proofs.Ytpigkccfepmmgaa.RpC
