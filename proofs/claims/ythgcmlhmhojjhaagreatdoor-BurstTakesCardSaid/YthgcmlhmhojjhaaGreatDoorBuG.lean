/- The law's example: a frame of one datagram is one section, which tells its times. -/
import Derived.Test.YthgcmlhmhojjhaaGreatDoorBuF
namespace Go.Proofs.YthgcmlhmhojjhaaGreatDoor.BuG
open Go Go.RowKit Go.Proofs.YthgcmlhmhojjhaaGreatDoor.Q Go.Proofs.YthgcmlhmhojjhaaGreatDoor.Mem Go.Proofs.YthgcmlhmhojjhaaGreatDoor.Rg Go.Proofs.YthgcmlhmhojjhaaGreatDoor.Ap Go.Proofs.YthgcmlhmhojjhaaGreatDoor.St Go.Proofs.YthgcmlhmhojjhaaGreatDoor.CrB Go.Proofs.YthgcmlhmhojjhaaGreatDoor.Tab Go.Proofs.YthgcmlhmhojjhaaGreatDoor.TmA Go.Proofs.YthgcmlhmhojjhaaGreatDoor.FrA Go.Proofs.YthgcmlhmhojjhaaGreatDoor.FrB Go.Proofs.YthgcmlhmhojjhaaGreatDoor.FrC Go.Proofs.YthgcmlhmhojjhaaGreatDoor.LaA Go.Proofs.YthgcmlhmhojjhaaGreatDoor.LaH Go.Proofs.YthgcmlhmhojjhaaGreatDoor.BuA Go.Proofs.YthgcmlhmhojjhaaGreatDoor.BuB Go.Proofs.YthgcmlhmhojjhaaGreatDoor.BuC Go.Proofs.YthgcmlhmhojjhaaGreatDoor.BuD Go.Proofs.YthgcmlhmhojjhaaGreatDoor.BuE Go.Proofs.YthgcmlhmhojjhaaGreatDoor.BuF

/-- a frame of 256 rows with one datagram -/
def oneF : Fr := addS (emptyF 256 191 64) (madeD 2 5)
theorem one_facts : addE (emptyF 256 191 64) (madeD 2 5) = 0 ∧ oneF.L = [(0, madeD 2 5)] ∧ oneF.used = 22 ∧ oneF.R = 256 ∧ oneF.K = 64 ∧ OkL oneF := by
  have hd := made_ok 2 5
  have hz : (madeD 2 5).size = 22 := by rw [hd.2]; rfl
  have he : addE (emptyF 256 191 64) (madeD 2 5) = 0 := by
    unfold addE
    rw [if_neg (by rw [hd.1]; decide), if_neg (by rw [hz]; unfold emptyF; decide)]
  have hS : oneF = { laidF (emptyF 256 191 64) (madeD 2 5) (madeD 2 5).size with L := (emptyF 256 191 64).L ++ [((emptyF 256 191 64).used, madeD 2 5)], used := (emptyF 256 191 64).used + (madeD 2 5).size, old := true } := by
    unfold oneF addS
    rw [if_neg (by rw [he]; decide)]
  refine ⟨he, by rw [hS]; rfl, by rw [hS]; show 0 + (madeD 2 5).size = 22; rw [hz], by rw [hS]; rfl, by rw [hS]; rfl, add_okL (empty_okL (by decide) (by decide) (by decide)) _⟩
theorem one_mk : ∃ p : MpA.Mp, mkL oneF 1 = [p.enc] ∧ p.chk = 0 ∧ p.times = ⟨0, true, true, 0⟩ := by
  obtain ⟨_, h1, h2, _, h4, h5⟩ := one_facts
  have hg := good_of h5
  have hx : oneF.L[0]? = some (0, madeD 2 5) := by rw [h1]; rfl
  refine ⟨gp oneF.L 1 (decide (64 - oneF.K = 0)) 0, ?_, by rw [gp_chk hg hx, if_pos ⟨by decide, by decide⟩], ?_⟩
  · unfold mkL
    rw [h4]
    have hp : parL oneF (64 - 64) = [] := rfl
    rw [hp]
    show gL oneF.L 1 _ ++ [] = _
    rw [List.append_nil]
    unfold gL
    rw [h1]
    rfl
  · rw [gp_get hx, h4, h1]
    rfl
set_option maxRecDepth 100000
set_option maxHeartbeats 1600000 in
theorem awake_any (w : World) (hT : Tab 2 w) (hF : Tab 1 w) : Calls Tryz.prog 7 #[] w fun e w' => e = .returned (.bool true) ∧ Below w.heap.size w w' := by
  have kn := new_any 256 191 64 w hF
  have HT := Lib.hid hT
  obtain ⟨he, hL, hU, hR, hK, hOK⟩ := one_facts
  obtain ⟨p, hm1, hm2, hm3⟩ := one_mk
  have HOK := Lib.hid hOK
  have HON := Lib.hid (show oneF.K ≤ 64 ∧ oneF.L.length ≠ 0 ∧ oneF.used ≠ 0 ∧ ColOk (padN oneF : Nat) (parL oneF (64 - oneF.K)) ∧ addS (emptyF 256 191 64) (madeD 2 5) = oneF from
    ⟨by omega, by rw [hL]; decide, by rw [hU]; decide, col_of (by rw [hR]; decide) _ (by omega), rfl⟩)
  have hsz : p.enc.size ≤ 1099511627776 := by have h1 := MpP.enc_size hm2; have h2 := MpA.dg_size (MpA.mchk_zero hm2).2.2; omega
  have HP := Lib.hid hm1
  have HTM := Lib.hid (show tmE p.enc = 0 ∧ tmT p.enc = ⟨0, true, true, 0⟩ from by rw [← hm3]; exact tm_m hm2)
  have hz22 : (madeD 2 5).size ≤ 1099511627776 := by rw [(made_ok 2 5).2]; unfold madeK; decide
  have HE := Lib.hid he
  clear hF hT he hL hU hR hK hOK hm1 hm2 hm3
  have kn2 : Calls Tryz.prog 21 #[.agg #[.int .i64 256, .int .i64 191, .int .i64 64]] w fun e w' => Below w.heap.size w w' ∧ FrNew 256 191 64 w e w' := kn.mono (fun e w' h => ⟨h.1, by have := h.2; rw [if_pos (by decide)] at this; exact this⟩)
  have kmd : ∀ V, Calls Tryz.prog 23 #[.int .i64 2, .int .u8 5] V fun e w' => e = .returned (.string (madeD 2 5)) ∧ Below V.heap.size V w' := fun V => made_any 2 5 V (by decide)
  have heq := fun V => eqTT ⟨0, true, true, 0⟩ ⟨0, true, true, 0⟩ V
  unfold Ti.vals at heq
  dsimp only at heq
  rw [show decide ((⟨0, true, true, 0⟩ : Ti) = ⟨0, true, true, 0⟩) = true from decide_eq_true rfl] at heq
  obtain ⟨MD, hMD⟩ : ∃ d, madeD 2 5 = d := ⟨_, rfl⟩
  rw [hMD] at kmd hz22 HON HE
  clear kn hMD
  go_enter Tryz.func7, Tryz.ntmps7
  go_wp2_with fail
  (with_reducible refine (kn2).mono ?_); rintro e1 W1 ⟨hb1, ⟨r, c, k, gf, gr, e1, e2, e3, _, _, _, _, rfl, hf⟩⟩
  obtain rfl : r = 256 := by omega
  obtain rfl : c = 191 := by omega
  obtain rfl : k = 64 := by omega
  have HF1 := Lib.hid hf
  clear kn2 hf e1 e2 e3
  go_wp2_with fail
  (with_reducible refine (kmd _).mono ?_); rintro e1 W2 ⟨rfl, hb2⟩
  have hz1 := hb1.size
  have hb12 := Lib.hid (hb1.trans (hb2.mono hz1))
  have ka := add_any W2 w.heap.size gf gr _ (emptyF 256 191 64) MD (HF1.out.below hb2) (empty_okL (by decide) (by decide) (by decide)).ok hz22
  rw [HON.out.2.2.2.2, HE.out, if_pos rfl] at ka
  have HF2 := Lib.hid (HF1.out.below hb2)
  clear kmd hb2
  go_wp2_with fail
  (with_reducible refine (ka).mono ?_); rintro e1 W3 ⟨v3, rfl, hf3, _, hk3⟩
  have hbB3 := Lib.hid (hb12.out.trans (hk3.be hb12.out.size (fun i hi => (HF2.out.ge i hi).1)))
  have kmk := make_any W3 w.heap.size gf gr v3 oneF 1 (HT.out.be hbB3.out) HT.out.lt hf3 HOK.out.ok HON.out.1 (good_of HOK.out) HON.out.2.1 HON.out.2.2.1 HON.out.2.2.2.1
  have HF3 := Lib.hid hf3
  have hz3 := hbB3.out.size
  have kmk2 : Calls Tryz.prog 10 #[.pointer (some ⟨gf, 0, none⟩), .int .i64 1] W3 fun e w' => (∃ a c, e = .returned (.tuple #[.slice a 1 c, .int .i64 0]) ∧ Slc w' a 1 c [p.enc]) ∧ Below w.heap.size W3 w' := kmk.mono (fun e w' h => by
    obtain ⟨v', h1, h2⟩ := h.ok ⟨by decide, by decide⟩
    rw [HP.out] at h2
    obtain ⟨a, c, rfl, h3⟩ := own_slc h2 rfl
    exact ⟨⟨a, c, h1, h3⟩, h.kept.be hz3 (fun i hi => (HF3.out.ge i hi).1)⟩)
  clear ka hk3 kmk hf3
  go_wp2_with fail
  (with_reducible refine (kmk2).mono ?_); rintro e1 W4 ⟨⟨a, c, rfl, hs4⟩, hb4⟩
  have hbB4 := Lib.hid (hbB3.out.trans hb4)
  obtain ⟨b0, o0, rfl, hlt, hc⟩ := hs4.s 0 p.enc rfl
  have c0 : W4.cell? ⟨b0, o0, none⟩ = some (.string p.enc) := hc 0 _ rfl
  have kt := times_any p.enc W4 (HT.out.be hbB4.out) hsz
  rw [HTM.out.1, HTM.out.2] at kt
  unfold Ti.vals at kt
  dsimp only at kt
  clear kmk2 hb4 hs4 hc hlt
  go_wp2_with fail
  (with_reducible refine (kt).mono ?_); rintro e1 W5 ⟨rfl, hb5⟩
  have hz4 := hbB4.out.size
  have hbe := (hbB4.out.trans (hb5.mono hz4)).alloc (Nat.le_trans hz4 hb5.size) (.cells #[.int .i64 0, .bool true, .bool true, .int .i64 0] 39)
  have hbk := Blk.new W5 39 #[.int .i64 0, .bool true, .bool true, .int .i64 0]
  have d0 := Blk.cell (hbk) 0 (v := .int .i64 0) rfl
  have d1 := Blk.cell (hbk) 1 (v := .bool true) rfl
  have d2 := Blk.cell (hbk) 2 (v := .bool true) rfl
  have d3 := Blk.cell (hbk) 3 (v := .int .i64 0) rfl
  clear kt hb5 hbk c0
  go_wp2_with fail
  go_ret
  exact ⟨rfl, hbe⟩
end Go.Proofs.YthgcmlhmhojjhaaGreatDoor.BuG
