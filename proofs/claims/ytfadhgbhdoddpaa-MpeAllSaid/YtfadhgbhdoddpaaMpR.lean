/- The document's Check and Bytes of a part. -/
import Derived.Test.YtfadhgbhdoddpaaMpD
import Derived.Test.YtfadhgbhdoddpaaPkB
import Derived.Test.YtfadhgbhdoddpaaPkD
namespace Go.Proofs.Ytfadhgbhdoddpaa.MpR
open Go Go.RowKit Go.Proofs.Ytfadhgbhdoddpaa.Q Go.Proofs.Ytfadhgbhdoddpaa.Mem Go.Proofs.Ytfadhgbhdoddpaa.Rg Go.Proofs.Ytfadhgbhdoddpaa.Ap Go.Proofs.Ytfadhgbhdoddpaa.St Go.Proofs.Ytfadhgbhdoddpaa.Ints Go.Proofs.Ytfadhgbhdoddpaa.BiP Go.Proofs.Ytfadhgbhdoddpaa.CrC Go.Proofs.Ytfadhgbhdoddpaa.CrD Go.Proofs.Ytfadhgbhdoddpaa.SeA Go.Proofs.Ytfadhgbhdoddpaa.SeC Go.Proofs.Ytfadhgbhdoddpaa.SeE Go.Proofs.Ytfadhgbhdoddpaa.SeEq Go.Proofs.Ytfadhgbhdoddpaa.SeI Go.Proofs.Ytfadhgbhdoddpaa.SeK Go.Proofs.Ytfadhgbhdoddpaa.SeP Go.Proofs.Ytfadhgbhdoddpaa.TmA Go.Proofs.Ytfadhgbhdoddpaa.TmB Go.Proofs.Ytfadhgbhdoddpaa.MpA Go.Proofs.Ytfadhgbhdoddpaa.MpC Go.Proofs.Ytfadhgbhdoddpaa.DgC Go.Proofs.Ytfadhgbhdoddpaa.DgG

set_option maxRecDepth 100000 in
theorem text_any (a : Option Addr) (c m : Nat) (L : List Int) (w : World) (hm : L.length = m) (hl : L.length ≤ 1000) (hL : Ints w a L) (hv : inB 255 L = true) :
    Calls Try.prog 30 #[.slice a m c] w fun e w' => e = .returned (.string (strOfNums L)) ∧ Below w.heap.size w w' := by
  subst hm
  have HL := Lib.hid hL
  clear hL
  go_enter Try.func30, Try.ntmps30
  go_wp2_with fail
  go_loopw [3, 4] (fun out i wr => ∃ (k : Nat) (b : ByteArray), k ≤ L.length ∧ out = .string b ∧ i = .int .i64 k ∧ Hid (b = strOfNums (L.take k)) ∧ b.size ≤ k ∧ Below w.heap.size w wr) (fun _ i _ => L.length - (intOf i).toNat)
  case atStart => exact ⟨0, nob, by omega, rfl, rfl, Lib.hid rfl, Nat.zero_le _, Below.refl _ _⟩
  case round =>
    obtain ⟨k, b, hk, rfl, rfl, hI, hbs, hb⟩ := hrel
    by_cases hkl : k < L.length
    · have t0 : decide (k < L.length) = true := by simpa using hkl
      obtain ⟨x, hx⟩ : ∃ x, L[k]? = some x := ⟨L[k], List.getElem?_eq_getElem hkl⟩
      have hx1 : 0 ≤ x ∧ x ≤ 255 := by
        have := List.all_eq_true.1 hv x (List.mem_of_getElem? hx)
        simpa [in1] using this
      obtain ⟨b1, o1, rfl, l1, c1⟩ := HL.out.below (Nat.le_refl _) hb k x hx
      have q2 : IntKind.u8.wrap x = x := by rw [IntKind.wrap_u8]; omega
      have hcv := conv_new wr [x] 1 wr.heap.size #[.int .u8 x] rfl rfl rfl
      have hadd : ∀ U : World, (Op.stringOp .add b (strOfNums [x])).run Try.prog U = .ok (.string (b ++ strOfNums [x])) U := fun U => run_string_add_sum U _ _ (by rw [son_size]; simp only [List.length_cons, List.length_nil]; omega)
      have hnew : b ++ strOfNums [x] = strOfNums (L.take (k + 1)) := by
        rw [hI.out, son_append, List.take_add_one, hx]
        rfl
      have hbs2 : (b ++ strOfNums [x]).size ≤ k + 1 := by rw [ByteArray.size_append, son_size]; simp only [List.length_cons, List.length_nil]; omega
      have HN := Lib.hid hnew
      have hb2 := hb.alloc hb.size (.cells #[.int .u8 x] 5)
      clear hnew hx hx1 hb hv
      go_wp2_with fail
      go_roundw
      case rel => exact ⟨k + 1, _, by omega, rfl, by go_num, HN, hbs2, hb2⟩
      case measure => simp [intOf]; omega
    · obtain rfl : k = L.length := by omega
      have t0 : decide (L.length < L.length) = false := by simp
      have HB := Lib.hid (hI.out.trans (by rw [List.take_length]))
      clear hI
      go_wp2_with fail
      go_ret
      exact ⟨by rw [HB.out]; rfl, hb⟩
set_option maxRecDepth 100000
set_option maxHeartbeats 800000 in
theorem rmcheck_any (p : Mp) (w : World) (hs : p.text.size ≤ 1099511627776) : Calls Try.prog 12 #[.agg p.vals] w fun e w' => e = .returned (.int .i64 p.chk) ∧ Below w.heap.size w w' := by
  have h1 : ¬ p.ok → p.chk = 15 := fun h => by unfold Mp.chk; rw [if_neg (fun h' => h h'.1)]
  have h2 : ¬ p.times.ok → p.chk = 15 := fun h => by unfold Mp.chk; rw [if_neg (fun h' => h h'.2)]
  have h3 : p.ok → p.times.ok → p.chk = dgE p.text := fun h h' => by unfold Mp.chk; rw [if_pos ⟨h, h'⟩]
  have kd := fun V => rcheck_any p.text V hs
  have HB := bk1 w 32 p.vals
  unfold Mp.ok at h1 h3
  unfold Ti.ok at h2 h3
  unfold Mp.vals at HB ⊢
  obtain ⟨ma, ⟨d, ta, fr, a⟩, te⟩ := p
  dsimp only at *
  obtain ⟨c, hc⟩ : ∃ c, Mp.chk ⟨ma, ⟨d, ta, fr, a⟩, te⟩ = c := ⟨_, rfl⟩
  rw [hc] at h1 h2 h3 ⊢
  obtain ⟨D, hD⟩ : ∃ D, dgE te = D := ⟨_, rfl⟩
  rw [hD] at kd h3
  have HB := Lib.hid HB
  have HE := HB.out.be
  have H1 := Lib.hid h1
  have H2 := Lib.hid h2
  have H3 := Lib.hid h3
  by_cases hk : (0 ≤ ma ∧ ma ≤ 65535) ∧ ((0 ≤ d ∧ d ≤ 4095) ∧ 0 ≤ a ∧ a ≤ 262143)
  · obtain ⟨⟨m1, m2⟩, ⟨d1, d2⟩, a1, a2⟩ := hk
    have t1 : decide (ma < 0) = false := by simp; omega
    have t2 : decide (65535 < ma) = false := by simp; omega
    have t3 : decide (d < 0) = false := by simp; omega
    have t4 : decide (4095 < d) = false := by simp; omega
    have t5 : decide (a < 0) = false := by simp; omega
    have t6 : decide (262143 < a) = false := by simp; omega
    have HC := Lib.hid (h3 ⟨m1, m2⟩ ⟨⟨d1, d2⟩, a1, a2⟩)
    clear hc h1 h2 h3 H1 H2 H3 hD m1 m2 d1 d2 a1 a2
    have c0 := Blk.cell (HB.out.nth 0 rfl) 0 (v := .int .i64 ma) rfl
    have c1 := Blk.cell (HB.out.nth 0 rfl) 1 (v := .int .i64 d) rfl
    have c2 := Blk.cell (HB.out.nth 0 rfl) 2 (v := .bool ta) rfl
    have c3 := Blk.cell (HB.out.nth 0 rfl) 3 (v := .bool fr) rfl
    have c4 := Blk.cell (HB.out.nth 0 rfl) 4 (v := .int .i64 a) rfl
    have c5 := Blk.cell (HB.out.nth 0 rfl) 5 (v := .string te) rfl
    go_enter Try.func12, Try.ntmps12
    go_wp2_with fail
    (with_reducible refine (kd _).mono ?_); rintro e1 W1 ⟨rfl, hb1⟩
    have hE := (HB.out.below hb1).be
    go_wp2_with fail
    go_ret
    exact ⟨by rw [HC.out]; rfl, hE⟩
  · have HK := Lib.hid hk
    clear hc h1 h2 h3 hD hk
    go_enter Try.func12, Try.ntmps12
    go_wp2_with fail
    all_goals
      first
        | (exfalso
           exact HK.out ⟨⟨by omega, by omega⟩, ⟨by omega, by omega⟩, by omega, by omega⟩)
        | (go_ret
           refine ⟨?_, HE⟩
           first
             | (rw [H1.out (by omega)]; rfl)
             | (rw [H2.out (by omega)]; rfl))
theorem mplain_any (p : Mp) (w : World) : Calls Try.prog 13 #[.agg p.vals] w fun e w' => e = .returned (.agg p.vals) ∧ Below w.heap.size w w' := by
  have HB := Lib.hid (bk2 w 25 32 p.vals zc)
  unfold Mp.vals at *
  obtain ⟨pa, ⟨d, ta, fr, a⟩, te⟩ := p
  dsimp only at *
  have c0 := Blk.cell (HB.out.nth 1 rfl) 0 (v := .int .i64 pa) rfl
  have c1 := Blk.cell (HB.out.nth 1 rfl) 1 (v := .int .i64 d) rfl
  have c2 := Blk.cell (HB.out.nth 1 rfl) 2 (v := .bool ta) rfl
  have c3 := Blk.cell (HB.out.nth 1 rfl) 3 (v := .bool fr) rfl
  have c4 := Blk.cell (HB.out.nth 1 rfl) 4 (v := .int .i64 a) rfl
  have c5 := Blk.cell (HB.out.nth 1 rfl) 5 (v := .string te) rfl
  go_enter Try.func13, Try.ntmps13
  go_wp2_with (refine wpList_store_blk (g := w.heap.size + 1) (T := 32) (cs' := #[.int .i64 pa, .int .i64 d, .bool ta, .bool fr, .int .i64 a, .string te]) rfl 32 _ _ rfl rfl rfl (HB.out.nth 0 rfl) (by kernel_rfl) (by kernel_rfl) (by kernel_rfl) (by kernel_rfl) ?_; intro W9 hW9 hg9 hz9)
  exact bodyPost_ret (v := .agg #[.int .i64 pa, .int .i64 d, .bool ta, .bool fr, .int .i64 a, .string te]) (results_cell_row rfl _ _ (w.heap.size + 1) 32 _ (0, 0) _ rfl hW9 Try.underlying32 rfl (by kernel_rfl)) rfl ⟨rfl, HB.out.be.trans (below_of_only hg9 HB.out.size (fun k hk => by injection hk with hk; omega))⟩
end Go.Proofs.Ytfadhgbhdoddpaa.MpR
