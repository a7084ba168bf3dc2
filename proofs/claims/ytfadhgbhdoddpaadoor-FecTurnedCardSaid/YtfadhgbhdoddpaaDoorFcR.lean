/- The document's Check and Bytes of a part. -/
import Derived.Test.YtfadhgbhdoddpaaDoorFcD
import Derived.Test.YtfadhgbhdoddpaaDoorInts
import Derived.Test.YtfadhgbhdoddpaaDoorCrD
namespace Go.Proofs.YtfadhgbhdoddpaaDoor.FcR
open Go Go.RowKit Go.Proofs.YtfadhgbhdoddpaaDoor.Q Go.Proofs.YtfadhgbhdoddpaaDoor.Mem Go.Proofs.YtfadhgbhdoddpaaDoor.Rg Go.Proofs.YtfadhgbhdoddpaaDoor.Ap Go.Proofs.YtfadhgbhdoddpaaDoor.St Go.Proofs.YtfadhgbhdoddpaaDoor.Ints Go.Proofs.YtfadhgbhdoddpaaDoor.BiP Go.Proofs.YtfadhgbhdoddpaaDoor.CrC Go.Proofs.YtfadhgbhdoddpaaDoor.CrD Go.Proofs.YtfadhgbhdoddpaaDoor.SeA Go.Proofs.YtfadhgbhdoddpaaDoor.SeC Go.Proofs.YtfadhgbhdoddpaaDoor.SeE Go.Proofs.YtfadhgbhdoddpaaDoor.SeEq Go.Proofs.YtfadhgbhdoddpaaDoor.SeI Go.Proofs.YtfadhgbhdoddpaaDoor.SeK Go.Proofs.YtfadhgbhdoddpaaDoor.SeP Go.Proofs.YtfadhgbhdoddpaaDoor.TmA Go.Proofs.YtfadhgbhdoddpaaDoor.TmB Go.Proofs.YtfadhgbhdoddpaaDoor.Tab Go.Proofs.YtfadhgbhdoddpaaDoor.FcA Go.Proofs.YtfadhgbhdoddpaaDoor.FcB Go.Proofs.YtfadhgbhdoddpaaDoor.FcC

set_option maxRecDepth 100000 in
theorem text_any (a : Option Addr) (c m : Nat) (L : List Int) (w : World) (hm : L.length = m) (hl : L.length ≤ 1000) (hL : Ints w a L) (hv : inB 255 L = true) :
    Calls Tryd.prog 26 #[.slice a m c] w fun e w' => e = .returned (.string (strOfNums L)) ∧ Below w.heap.size w w' := by
  subst hm
  have HL := Lib.hid hL
  clear hL
  go_enter Tryd.func26, Tryd.ntmps26
  go_wp2_with fail
  go_loopw [3, 4] (fun out i wr => ∃ (k : Nat) (b : ByteArray), k ≤ L.length ∧ out = .string b ∧ i = .int .i64 k ∧ Hid (b = strOfNums (L.take k)) ∧ b.size ≤ k ∧ Below w.heap.size w wr) (fun _ i _ => L.length - (intOf i).toNat)
  case atStart => exact ⟨0, nob, by omega, rfl, rfl, Lib.hid rfl, Nat.zero_le _, Below.refl _ _⟩
  case round =>
    obtain ⟨k, b, hk, rfl, rfl, hI, hbs, hb⟩ := hrel
    by_cases hkl : k < L.length
    · have t0 : decide (k < L.length) = true := by simpa using hkl
      obtain ⟨x, hx⟩ : ∃ x, L[k]? = some x := ⟨L[k], List.getElem?_eq_getElem hkl⟩
      have hx1 : 0 ≤ x ∧ x ≤ 255 := by
        have := List.all_eq_true.1 hv x (List.mem_of_getElem? hx)
        simpa [in1] using this
      obtain ⟨b1, o1, rfl, l1, c1⟩ := HL.out.below (Nat.le_refl _) hb k x hx
      have q2 : IntKind.u8.wrap x = x := by rw [IntKind.wrap_u8]; omega
      have hcv := conv_new wr [x] 1 wr.heap.size #[.int .u8 x] rfl rfl rfl
      have hadd : ∀ U : World, (Op.stringOp .add b (strOfNums [x])).run Tryd.prog U = .ok (.string (b ++ strOfNums [x])) U := fun U => run_string_add_sum U _ _ (by rw [son_size]; simp only [List.length_cons, List.length_nil]; omega)
      have hnew : b ++ strOfNums [x] = strOfNums (L.take (k + 1)) := by
        rw [hI.out, son_append, List.take_add_one, hx]
        rfl
      have hbs2 : (b ++ strOfNums [x]).size ≤ k + 1 := by rw [ByteArray.size_append, son_size]; simp only [List.length_cons, List.length_nil]; omega
      have HN := Lib.hid hnew
      have hb2 := hb.alloc hb.size (.cells #[.int .u8 x] 5)
      clear hnew hx hx1 hb hv
      go_wp2_with fail
      go_roundw
      case rel => exact ⟨k + 1, _, by omega, rfl, by go_num, HN, hbs2, hb2⟩
      case measure => simp [intOf]; omega
    · obtain rfl : k = L.length := by omega
      have t0 : decide (L.length < L.length) = false := by simp
      have HB := Lib.hid (hI.out.trans (by rw [List.take_length]))
      clear hI
      go_wp2_with fail
      go_ret
      exact ⟨by rw [HB.out]; rfl, hb⟩
set_option maxRecDepth 100000
set_option maxHeartbeats 1600000 in
theorem rfcheck_any (p : Fp) (w : World) : Calls Tryd.prog 10 #[.agg p.vals] w fun e w' => e = .returned (.int .i64 p.chk) ∧ Below w.heap.size w w' := by
  have h1 : ¬ p.ok → p.chk = 15 := fun h => by unfold Fp.chk; rw [if_neg (fun h' => h h'.1)]
  have h2 : ¬ p.times.ok → p.chk = 15 := fun h => by unfold Fp.chk; rw [if_neg (fun h' => h h'.2)]
  have h3 : p.ok → p.times.ok → (p.text.size = 256 ∨ p.text.size = 512 ∨ p.text.size = 768 ∨ p.text.size = 1024) → p.chk = 0 := fun h h' hs => by unfold Fp.chk; rw [if_pos ⟨h, h'⟩, if_pos (by unfold isSz; simp; omega)]
  have h4 : p.ok → p.times.ok → ¬ (p.text.size = 256 ∨ p.text.size = 512 ∨ p.text.size = 768 ∨ p.text.size = 1024) → p.chk = 12 := fun h h' hs => by unfold Fp.chk; rw [if_pos ⟨h, h'⟩, if_neg (by unfold isSz; simp; omega)]
  have HB := bk1 w 32 p.vals
  unfold Fp.ok at h1 h3 h4
  unfold Ti.ok at h2 h3 h4
  unfold Fp.vals at HB ⊢
  obtain ⟨pa, nu, la, ⟨d, ta, fr, a⟩, te⟩ := p
  dsimp only at *
  obtain ⟨c, hc⟩ : ∃ c, Fp.chk ⟨pa, nu, la, ⟨d, ta, fr, a⟩, te⟩ = c := ⟨_, rfl⟩
  rw [hc] at h1 h2 h3 h4 ⊢
  have H1 := Lib.hid h1
  have H2 := Lib.hid h2
  have H3 := Lib.hid h3
  have H4 := Lib.hid h4
  have HE := HB.be
  clear hc h1 h2 h3 h4 HB
  go_enter Tryd.func10, Tryd.ntmps10
  go_wp2_with fail
  all_goals
    go_ret
    refine ⟨?_, HE⟩
    try simp only [bne_iff_ne, ne_eq, bne_eq_false_iff_eq] at *
    first
      | (rw [H1.out (by omega)]; rfl)
      | (rw [H2.out (by omega)]; rfl)
      | (rw [H3.out (by omega) (by omega) (by omega)]; rfl)
      | (rw [H4.out (by omega) (by omega) (by omega)]; rfl)
theorem fplain_any (p : Fp) (w : World) : Calls Tryd.prog 11 #[.agg p.vals] w fun e w' => e = .returned (.agg p.vals) ∧ Below w.heap.size w w' := by
  have HB := Lib.hid (bk2 w 25 32 p.vals zc)
  unfold Fp.vals at *
  obtain ⟨pa, nu, la, ⟨d, ta, fr, a⟩, te⟩ := p
  dsimp only at *
  have c0 := Blk.cell (HB.out.nth 1 rfl) 0 (v := .int .i64 pa) rfl
  have c1 := Blk.cell (HB.out.nth 1 rfl) 1 (v := .int .i64 nu) rfl
  have c2 := Blk.cell (HB.out.nth 1 rfl) 2 (v := .int .i64 la) rfl
  have c3 := Blk.cell (HB.out.nth 1 rfl) 3 (v := .int .i64 d) rfl
  have c4 := Blk.cell (HB.out.nth 1 rfl) 4 (v := .bool ta) rfl
  have c5 := Blk.cell (HB.out.nth 1 rfl) 5 (v := .bool fr) rfl
  have c6 := Blk.cell (HB.out.nth 1 rfl) 6 (v := .int .i64 a) rfl
  have c7 := Blk.cell (HB.out.nth 1 rfl) 7 (v := .string te) rfl
  go_enter Tryd.func11, Tryd.ntmps11
  go_wp2_with (refine wpList_store_blk (g := w.heap.size + 1) (T := 32) (cs' := #[.int .i64 pa, .int .i64 nu, .int .i64 la, .int .i64 d, .bool ta, .bool fr, .int .i64 a, .string te]) rfl 32 _ _ rfl rfl rfl (HB.out.nth 0 rfl) (by kernel_rfl) (by kernel_rfl) (by kernel_rfl) (by kernel_rfl) ?_; intro W9 hW9 hg9 hz9)
  exact bodyPost_ret (v := .agg #[.int .i64 pa, .int .i64 nu, .int .i64 la, .int .i64 d, .bool ta, .bool fr, .int .i64 a, .string te]) (results_cell_row rfl _ _ (w.heap.size + 1) 32 _ (0, 0) _ rfl hW9 Tryd.underlying32 rfl (by kernel_rfl)) rfl ⟨rfl, HB.out.be.trans (below_of_only hg9 HB.out.size (fun k hk => by injection hk with hk; omega))⟩
end Go.Proofs.YtfadhgbhdoddpaaDoor.FcR
