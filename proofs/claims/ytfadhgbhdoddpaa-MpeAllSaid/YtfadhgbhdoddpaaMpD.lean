/- fec: With, Is, Cut. -/
import Derived.Test.YtfadhgbhdoddpaaMpC
namespace Go.Proofs.Ytfadhgbhdoddpaa.MpD
open Go Go.RowKit Go.Proofs.Ytfadhgbhdoddpaa.Q Go.Proofs.Ytfadhgbhdoddpaa.Mem Go.Proofs.Ytfadhgbhdoddpaa.Rg Go.Proofs.Ytfadhgbhdoddpaa.Ap Go.Proofs.Ytfadhgbhdoddpaa.St Go.Proofs.Ytfadhgbhdoddpaa.BiP Go.Proofs.Ytfadhgbhdoddpaa.SeA Go.Proofs.Ytfadhgbhdoddpaa.SeC Go.Proofs.Ytfadhgbhdoddpaa.SeE Go.Proofs.Ytfadhgbhdoddpaa.SeEq Go.Proofs.Ytfadhgbhdoddpaa.SeI Go.Proofs.Ytfadhgbhdoddpaa.SeK Go.Proofs.Ytfadhgbhdoddpaa.SeP Go.Proofs.Ytfadhgbhdoddpaa.TmA Go.Proofs.Ytfadhgbhdoddpaa.TmB Go.Proofs.Ytfadhgbhdoddpaa.MpA Go.Proofs.Ytfadhgbhdoddpaa.MpC

/-- a part with other times -/
def atP (p : Mp) (x : Ti) : Mp := ⟨p.mac, x, p.text⟩
def mwE (t : ByteArray) (x : Ti) : Int := if mdE t = 0 then (atP (mdP t) x).chk else mdE t
def mwS (t : ByteArray) (x : Ti) : ByteArray := if mdE t = 0 then (atP (mdP t) x).enc else nob
theorem mdp_zero {t : ByteArray} (h : mdE t ≠ 0) : mdP t = zeroP := (md_zero rfl h).2
theorem dp_size (t : ByteArray) : (mdP t).text.size ≤ 1099511627776 := by
  by_cases h : mdE t = 0
  · unfold mdP
    rw [if_pos h]
    unfold mdE at h
    by_cases h1 : decE t = 0
    · have hb := (chk_zero (dec_enc h1).1).2
      show ((decS t).body.extract 4 (decS t).body.size).size ≤ _
      rw [ByteArray.size_extract]
      omega
    · rw [if_pos h1] at h; exact absurd h h1
  · rw [mdp_zero h]
    exact Nat.zero_le _
set_option maxRecDepth 100000
theorem mwith_any (t : ByteArray) (x : Ti) (w : World) (hs : t.size ≤ 1099511627776) : Calls Try.prog 18 #[.string t, .agg x.vals] w fun e w' => e = .returned (.tuple #[.string (mwS t x), .int .i64 (mwE t x)]) ∧ Below w.heap.size w w' := by
  have kd := fun V => mdec_any t V hs
  have ke := fun V => menc_any (atP (mdP t) x) V (dp_size t)
  have HB := Lib.hid (bk1 w 23 x.vals)
  unfold Ti.vals at *
  by_cases h : mdE t = 0
  · rw [show mwE t x = (atP (mdP t) x).chk from if_pos h, show mwS t x = (atP (mdP t) x).enc from if_pos h]
    rw [h] at kd
    obtain ⟨E, hE⟩ : ∃ E, (atP (mdP t) x).chk = E := ⟨_, rfl⟩
    obtain ⟨S, hS⟩ : ∃ S, (atP (mdP t) x).enc = S := ⟨_, rfl⟩
    rw [hE, hS] at ke ⊢
    unfold Mp.vals atP at ke
    unfold Mp.vals at kd
    dsimp only at ke
    clear hE hS h
    obtain ⟨Q, hQ⟩ : ∃ Q, mdP t = Q := ⟨_, rfl⟩
    rw [hQ] at kd ke
    clear hQ
    obtain ⟨pa, ti, te⟩ := Q
    obtain ⟨od, ot, of', oa⟩ := ti
    obtain ⟨d, ta, fr, a⟩ := x
    dsimp only at *
    go_enter Try.func18, Try.ntmps18
    go_wp2_with fail
    (with_reducible refine (kd _).mono ?_); rintro e1 W1 ⟨rfl, hb1⟩
    have HB1 := Lib.hid ((HB.out.below hb1).new 25 #[.int .i64 pa, .int .i64 od, .bool ot, .bool of', .int .i64 oa, .string te])
    have hgw : w.heap.size < W1.heap.size := (HB.out.below hb1).lt 0 rfl
    clear kd hb1 HB
    have d0 := Blk.cell (HB1.out.nth 1 rfl) 0 (v := .int .i64 d) rfl
    have d1 := Blk.cell (HB1.out.nth 1 rfl) 1 (v := .bool ta) rfl
    have d2 := Blk.cell (HB1.out.nth 1 rfl) 2 (v := .bool fr) rfl
    have d3 := Blk.cell (HB1.out.nth 1 rfl) 3 (v := .int .i64 a) rfl
    go_wp2_with (refine wpList_store_blk (g := W1.heap.size) (T := 25) (cs' := #[.int .i64 pa, .int .i64 d, .bool ta, .bool fr, .int .i64 a, .string te]) rfl 23 _ _ rfl rfl rfl (HB1.out.nth 0 rfl) (by kernel_rfl) (by kernel_rfl) (by kernel_rfl) (by kernel_rfl) ?_; clear d0 d1 d2 d3; intro V hV hgr hsz; have d0 := Blk.cell hV 0 (v := .int .i64 pa) rfl; have d1 := Blk.cell hV 1 (v := .int .i64 d) rfl; have d2 := Blk.cell hV 2 (v := .bool ta) rfl; have d3 := Blk.cell hV 3 (v := .bool fr) rfl; have d4 := Blk.cell hV 4 (v := .int .i64 a) rfl; have d5 := Blk.cell hV 5 (v := .string te) rfl)
    have HV := Lib.hid (show Bk w V [(W1.heap.size, 25, #[.int .i64 pa, .int .i64 d, .bool ta, .bool fr, .int .i64 a, .string te])] from ⟨HB1.out.be.trans (below_of_only hgr HB1.out.size (fun k hk => by injection hk with hk; omega)), fun x hx => by
      rcases List.mem_cons.1 hx with rfl | hx
      · exact hV
      · cases hx⟩)
    clear hV hgr hsz HB1
    (with_reducible refine (ke _).mono ?_); rintro e1 W2 ⟨rfl, hb2⟩
    have hE := (HV.out.below hb2).be
    go_wp2_with fail
    go_ret2
    exact ⟨rfl, hE⟩
  · rw [show mwE t x = mdE t from if_neg h, show mwS t x = nob from if_neg h]
    obtain ⟨c, hc⟩ : ∃ c, mdE t = c := ⟨_, rfl⟩
    rw [hc] at kd h ⊢
    obtain ⟨Q, hQ⟩ : ∃ Q, mdP t = Q := ⟨_, rfl⟩
    rw [hQ] at kd
    have t1 : (c != 0) = true := by simpa using h
    unfold Mp.vals at kd
    clear hc h hQ ke
    go_enter Try.func18, Try.ntmps18
    go_wp2_with fail
    (with_reducible refine (kd _).mono ?_); rintro e1 W1 ⟨rfl, hb1⟩
    have hE := ((HB.out.below hb1).new 25 Q.vals).be
    unfold Mp.vals at hE
    go_wp2_with fail
    go_ret2
    exact ⟨rfl, hE⟩
theorem is_any (t : ByteArray) (w : World) : Calls Try.prog 16 #[.string t] w fun e w' => e = .returned (.bool (decide (0 < t.size ∧ at' t 0 = 62))) ∧ w = w' := by
  by_cases h : t.size = 0
  · have ht : t = nob := by
      apply bl_inj
      rw [show bl nob = [] from rfl]
      exact List.eq_nil_of_length_eq_zero (by rw [bl_len]; exact h)
    subst ht
    go_enter Try.func16, Try.ntmps16
    go_wp2_with fail
    go_ret
    exact ⟨rfl, rfl⟩
  · have hi := fun V => idx_at t 0 (by omega) V
    have hn : (t.toList != (nob : ByteArray).toList) = true := by
      rw [bne, bytes_eq]
      have : t ≠ nob := by rintro rfl; exact h rfl
      simp [this]
    have hn2 : t.toList.isEmpty = false := by rw [isEmpty_iff]; simpa using h
    have HE := Lib.hid (show (at' t 0 == 62) = decide (0 < t.size ∧ at' t 0 = 62) by
      show decide (at' t 0 = 62) = _
      rw [decide_eq_decide]
      exact ⟨fun h' => ⟨by omega, h'⟩, fun h' => h'.2⟩)
    rw [show (((0 : Nat)) : Int) = 0 from rfl] at hi
    clear h
    go_enter Try.func16, Try.ntmps16
    go_wp2_with fail
    go_ret
    exact ⟨by rw [← HE.out]; rfl, rfl⟩
end Go.Proofs.Ytfadhgbhdoddpaa.MpD
