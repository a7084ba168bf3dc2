/- fec: With, Is, Cut. -/
import Derived.Test.YtfadhgbhdoddpaaDoorFcC
namespace Go.Proofs.YtfadhgbhdoddpaaDoor.FcD
open Go Go.RowKit Go.Proofs.YtfadhgbhdoddpaaDoor.Q Go.Proofs.YtfadhgbhdoddpaaDoor.Mem Go.Proofs.YtfadhgbhdoddpaaDoor.Rg Go.Proofs.YtfadhgbhdoddpaaDoor.Ap Go.Proofs.YtfadhgbhdoddpaaDoor.St Go.Proofs.YtfadhgbhdoddpaaDoor.BiP Go.Proofs.YtfadhgbhdoddpaaDoor.SeA Go.Proofs.YtfadhgbhdoddpaaDoor.SeC Go.Proofs.YtfadhgbhdoddpaaDoor.SeE Go.Proofs.YtfadhgbhdoddpaaDoor.SeEq Go.Proofs.YtfadhgbhdoddpaaDoor.SeI Go.Proofs.YtfadhgbhdoddpaaDoor.SeK Go.Proofs.YtfadhgbhdoddpaaDoor.SeP Go.Proofs.YtfadhgbhdoddpaaDoor.TmA Go.Proofs.YtfadhgbhdoddpaaDoor.TmB Go.Proofs.YtfadhgbhdoddpaaDoor.Tab Go.Proofs.YtfadhgbhdoddpaaDoor.FcA Go.Proofs.YtfadhgbhdoddpaaDoor.FcB Go.Proofs.YtfadhgbhdoddpaaDoor.FcC

/-- a part with other times -/
def atP (p : Fp) (x : Ti) : Fp := ⟨p.pad, p.number, p.last, x, p.text⟩
def fwE (t : ByteArray) (x : Ti) : Int := if fdE t = 0 then (atP (fdP t) x).chk else fdE t
def fwS (t : ByteArray) (x : Ti) : ByteArray := if fdE t = 0 then (atP (fdP t) x).enc else nob
set_option maxRecDepth 100000
theorem fwith_any (t : ByteArray) (x : Ti) (w : World) (hT : Tab 0 w) (hs : t.size ≤ 1099511627776) : Calls Tryd.prog 18 #[.string t, .agg x.vals] w fun e w' => e = .returned (.tuple #[.string (fwS t x), .int .i64 (fwE t x)]) ∧ Below w.heap.size w w' := by
  have kd := fun V (h : Tab 0 V) => fdec_any t V h hs
  have ke := fun V (h : Tab 0 V) => fenc_any (atP (fdP t) x) V h
  have HB := Lib.hid (bk1 w 23 x.vals)
  have HT := Lib.hid (hT.be HB.out.be)
  unfold Ti.vals at *
  by_cases h : fdE t = 0
  · rw [show fwE t x = (atP (fdP t) x).chk from if_pos h, show fwS t x = (atP (fdP t) x).enc from if_pos h]
    rw [h] at kd
    obtain ⟨E, hE⟩ : ∃ E, (atP (fdP t) x).chk = E := ⟨_, rfl⟩
    obtain ⟨S, hS⟩ : ∃ S, (atP (fdP t) x).enc = S := ⟨_, rfl⟩
    rw [hE, hS] at ke ⊢
    unfold Fp.vals atP at ke
    unfold Fp.vals at kd
    dsimp only at ke
    clear hE hS h
    obtain ⟨Q, hQ⟩ : ∃ Q, fdP t = Q := ⟨_, rfl⟩
    rw [hQ] at kd ke
    clear hQ
    obtain ⟨pa, nu, la, ti, te⟩ := Q
    obtain ⟨od, ot, of', oa⟩ := ti
    obtain ⟨d, ta, fr, a⟩ := x
    dsimp only at *
    have HT0 := Lib.hid hT
    clear hT
    go_enter Tryd.func18, Tryd.ntmps18
    go_wp2_with fail
    (with_reducible refine (kd _ HT.out).mono ?_); rintro e1 W1 ⟨rfl, hb1⟩
    have HT1 := Lib.hid (HT.out.be hb1)
    have HB1 := Lib.hid ((HB.out.below hb1).new 25 #[.int .i64 pa, .int .i64 nu, .int .i64 la, .int .i64 od, .bool ot, .bool of', .int .i64 oa, .string te])
    have HT2 := Lib.hid (HT1.out.be ((Below.refl _ _).alloc (Nat.le_refl _) (.cells #[.int .i64 pa, .int .i64 nu, .int .i64 la, .int .i64 od, .bool ot, .bool of', .int .i64 oa, .string te] 25)))
    have hgw : w.heap.size < W1.heap.size := (HB.out.below hb1).lt 0 rfl
    clear kd hb1 HT1 HB
    have d0 := Blk.cell (HB1.out.nth 1 rfl) 0 (v := .int .i64 d) rfl
    have d1 := Blk.cell (HB1.out.nth 1 rfl) 1 (v := .bool ta) rfl
    have d2 := Blk.cell (HB1.out.nth 1 rfl) 2 (v := .bool fr) rfl
    have d3 := Blk.cell (HB1.out.nth 1 rfl) 3 (v := .int .i64 a) rfl
    go_wp2_with (refine wpList_store_blk (g := W1.heap.size) (T := 25) (cs' := #[.int .i64 pa, .int .i64 nu, .int .i64 la, .int .i64 d, .bool ta, .bool fr, .int .i64 a, .string te]) rfl 23 _ _ rfl rfl rfl (HB1.out.nth 0 rfl) (by kernel_rfl) (by kernel_rfl) (by kernel_rfl) (by kernel_rfl) ?_; clear d0 d1 d2 d3; intro V hV hgr hsz; have d0 := Blk.cell hV 0 (v := .int .i64 pa) rfl; have d1 := Blk.cell hV 1 (v := .int .i64 nu) rfl; have d2 := Blk.cell hV 2 (v := .int .i64 la) rfl; have d3 := Blk.cell hV 3 (v := .int .i64 d) rfl; have d4 := Blk.cell hV 4 (v := .bool ta) rfl; have d5 := Blk.cell hV 5 (v := .bool fr) rfl; have d6 := Blk.cell hV 6 (v := .int .i64 a) rfl; have d7 := Blk.cell hV 7 (v := .string te) rfl)
    have HV := Lib.hid (show Bk w V [(W1.heap.size, 25, #[.int .i64 pa, .int .i64 nu, .int .i64 la, .int .i64 d, .bool ta, .bool fr, .int .i64 a, .string te])] from ⟨HB1.out.be.trans (below_of_only hgr HB1.out.size (fun k hk => by injection hk with hk; omega)), fun x hx => by
      rcases List.mem_cons.1 hx with rfl | hx
      · exact hV
      · cases hx⟩)
    have HT3 := Lib.hid (HT0.out.be HV.out.be)
    clear hV hgr hsz HB1
    (with_reducible refine (ke _ HT3.out).mono ?_); rintro e1 W2 ⟨rfl, hb2⟩
    have hE := (HV.out.below hb2).be
    go_wp2_with fail
    go_ret2
    exact ⟨rfl, hE⟩
  · rw [show fwE t x = fdE t from if_neg h, show fwS t x = nob from if_neg h]
    obtain ⟨c, hc⟩ : ∃ c, fdE t = c := ⟨_, rfl⟩
    rw [hc] at kd h ⊢
    obtain ⟨Q, hQ⟩ : ∃ Q, fdP t = Q := ⟨_, rfl⟩
    rw [hQ] at kd
    have t1 : (c != 0) = true := by simpa using h
    unfold Fp.vals at kd
    clear hc h hQ ke hT
    go_enter Tryd.func18, Tryd.ntmps18
    go_wp2_with fail
    (with_reducible refine (kd _ HT.out).mono ?_); rintro e1 W1 ⟨rfl, hb1⟩
    have hE := ((HB.out.below hb1).new 25 Q.vals).be
    unfold Fp.vals at hE
    go_wp2_with fail
    go_ret2
    exact ⟨rfl, hE⟩
theorem is_any (t : ByteArray) (w : World) : Calls Tryd.prog 14 #[.string t] w fun e w' => e = .returned (.bool (decide (0 < t.size ∧ at' t 0 = 120))) ∧ w = w' := by
  by_cases h : t.size = 0
  · have ht : t = nob := by
      apply bl_inj
      rw [show bl nob = [] from rfl]
      exact List.eq_nil_of_length_eq_zero (by rw [bl_len]; exact h)
    subst ht
    go_enter Tryd.func14, Tryd.ntmps14
    go_wp2_with fail
    go_ret
    exact ⟨rfl, rfl⟩
  · have hi := fun V => idx_at t 0 (by omega) V
    have hn : (t.toList != (nob : ByteArray).toList) = true := by
      rw [bne, bytes_eq]
      have : t ≠ nob := by rintro rfl; exact h rfl
      simp [this]
    have hn2 : t.toList.isEmpty = false := by rw [isEmpty_iff]; simpa using h
    have HE := Lib.hid (show (at' t 0 == 120) = decide (0 < t.size ∧ at' t 0 = 120) by
      show decide (at' t 0 = 120) = _
      rw [decide_eq_decide]
      exact ⟨fun h' => ⟨by omega, h'⟩, fun h' => h'.2⟩)
    rw [show (((0 : Nat)) : Int) = 0 from rfl] at hi
    clear h
    go_enter Tryd.func14, Tryd.ntmps14
    go_wp2_with fail
    go_ret
    exact ⟨by rw [← HE.out]; rfl, rfl⟩
theorem cut_any (p : Fp) (w : World) (h : 0 ≤ p.last ∧ p.last ≤ 63) : Calls Tryd.prog 15 #[.agg p.vals] w fun e w' => e = .returned (.int .i64 (63 - p.last)) ∧ Below w.heap.size w w' := by
  have HB := Lib.hid (bk1 w 25 p.vals)
  unfold Fp.vals at *
  obtain ⟨h1, h2⟩ := h
  have hE := HB.out.be
  go_enter Tryd.func15, Tryd.ntmps15
  go_wp2_with fail
  go_ret
  exact ⟨rfl, hE⟩
end Go.Proofs.YtfadhgbhdoddpaaDoor.FcD
