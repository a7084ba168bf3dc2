/- TableMends, walked. -/
import Derived.Test.YtlocgilgdnhnlaaGreatDoorLaR
namespace Go.Proofs.YtlocgilgdnhnlaaGreatDoor.MeA
open Go Go.RowKit Go.Proofs.YtlocgilgdnhnlaaGreatDoor.Q Go.Proofs.YtlocgilgdnhnlaaGreatDoor.Mem Go.Proofs.YtlocgilgdnhnlaaGreatDoor.Rg Go.Proofs.YtlocgilgdnhnlaaGreatDoor.Ap Go.Proofs.YtlocgilgdnhnlaaGreatDoor.St Go.Proofs.YtlocgilgdnhnlaaGreatDoor.CrB Go.Proofs.YtlocgilgdnhnlaaGreatDoor.Tab Go.Proofs.YtlocgilgdnhnlaaGreatDoor.Ints Go.Proofs.YtlocgilgdnhnlaaGreatDoor.TlS Go.Proofs.YtlocgilgdnhnlaaGreatDoor.TbM Go.Proofs.YtlocgilgdnhnlaaGreatDoor.TbO Go.Proofs.YtlocgilgdnhnlaaGreatDoor.TbP Go.Proofs.YtlocgilgdnhnlaaGreatDoor.TbQ Go.Proofs.YtlocgilgdnhnlaaGreatDoor.TbT Go.Proofs.YtlocgilgdnhnlaaGreatDoor.TbU Go.Proofs.YtlocgilgdnhnlaaGreatDoor.TbV Go.Proofs.YtlocgilgdnhnlaaGreatDoor.TbW Go.Proofs.YtlocgilgdnhnlaaGreatDoor.FrA Go.Proofs.YtlocgilgdnhnlaaGreatDoor.FrB Go.Proofs.YtlocgilgdnhnlaaGreatDoor.LaG Go.Proofs.YtlocgilgdnhnlaaGreatDoor.LaH Go.Proofs.YtlocgilgdnhnlaaGreatDoor.LaI Go.Proofs.YtlocgilgdnhnlaaGreatDoor.LaP Go.Proofs.YtlocgilgdnhnlaaGreatDoor.LaQ Go.Proofs.YtlocgilgdnhnlaaGreatDoor.LaR

set_option maxRecDepth 100000
theorem parS_L (F : Fr) (k : Nat) : (FrC.parS F k).L = F.L := by
  unfold FrC.parS FrC.freshS
  split
  · rfl
  · split <;> rfl
theorem drop_at {α : Type} {l : List α} {i : Nat} {x : α} (h : l[i]? = some x) : l.drop i = x :: l.drop (i + 1) := by
  obtain ⟨hi, e⟩ := List.getElem?_eq_some_iff.1 h
  rw [List.drop_eq_getElem_cons hi, e]
/-- a datagram that is told is looked for among those that were put -/
theorem seek {L M : List (Nat × ByteArray)} {u i k : Nat} {y : Nat × ByteArray} (hc : Chain 0 L u) (h : (M.drop i).Sublist (L.drop k)) (hy : M[i]? = some y) :
    ∃ z, L[k]? = some z ∧ (z.1 ≠ y.1 → (M.drop i).Sublist (L.drop (k + 1))) ∧ (z.1 = y.1 → z = y ∧ (M.drop (i + 1)).Sublist (L.drop (k + 1))) := by
  rw [drop_at hy] at h ⊢
  have hk : k < L.length := by
    rcases Nat.lt_or_ge k L.length with h1 | h1
    · exact h1
    · rw [List.drop_eq_nil_of_le h1] at h
      cases h
  obtain ⟨z, hz⟩ : ∃ z, L[k]? = some z := ⟨_, List.getElem?_eq_getElem hk⟩
  refine ⟨z, hz, fun hne => ?_, fun he => ?_⟩
  · rw [drop_at hz] at h
    cases h with
    | cons _ h => exact h
    | cons_cons _ h => exact absurd rfl hne
  · rw [drop_at hz] at h
    cases h with
    | cons _ h =>
      exfalso
      have hm : y ∈ L.drop (k + 1) := h.subset (by simp)
      obtain ⟨j, hj⟩ := List.mem_iff_getElem?.1 hm
      rw [List.getElem?_drop] at hj
      have h1 := chain_lt hc hz hj (by omega)
      have h2 := dg_size (chain_in hc z (List.mem_of_getElem? hz)).2.2
      omega
    | cons_cons _ h => exact ⟨rfl, h⟩
set_option maxHeartbeats 6400000 in
theorem law_any (w : World) (R C K : Int) (la ga pa : Option Addr) (ln lc gn gc pn pc : Nat) (pad : Bool) (l g p : List Int) (hT : Tab 0 w) (hT2 : Tab 1 w)
    (hl : Ints w la l) (hln : l.length = ln) (hll : ln ≤ 9223372036854775807) (hg : Ints w ga g) (hgn : g.length = gn) (hp : Ints w pa p) (hpn : p.length = pn) :
    Calls Tryz.prog 3 #[.agg #[.int .i64 R, .int .i64 C, .int .i64 K], .slice la ln lc, .agg #[.slice ga gn gc, .slice pa pn pc, .bool pad]] w fun e w' => e = .returned (.bool true) ∧ Below w.heap.size w w' := by
  obtain ⟨Q, hQ⟩ : ∃ Q : Ending → World → Prop, Q = (fun e w' => e = .returned (.bool true) ∧ Below w.heap.size w w') := ⟨_, rfl⟩
  rw [← hQ]
  have HR := Lib.hid hQ
  have hB1 := Blk.new w 23 #[.int .i64 R, .int .i64 C, .int .i64 K]
  have hbe1 := (Below.refl _ w).alloc (Nat.le_refl _) (.cells #[.int .i64 R, .int .i64 C, .int .i64 K] 23)
  have hB2 := hB1.alloc (.cells #[.slice ga gn gc, .slice pa pn pc, .bool pad] 26)
  have hB3 := Blk.newAt (w.alloc (.cells #[.int .i64 R, .int .i64 C, .int .i64 K] 23)) 26 #[.slice ga gn gc, .slice pa pn pc, .bool pad] (show w.heap.size + 1 = (w.alloc (.cells #[.int .i64 R, .int .i64 C, .int .i64 K] 23)).heap.size by simp)
  have hbe2 := hbe1.alloc hbe1.size (.cells #[.slice ga gn gc, .slice pa pn pc, .bool pad] 26)
  obtain ⟨V, hV⟩ : ∃ V, (w.alloc (.cells #[.int .i64 R, .int .i64 C, .int .i64 K] 23)).alloc (.cells #[.slice ga gn gc, .slice pa pn pc, .bool pad] 26) = V := ⟨_, rfl⟩
  rw [hV] at hB2 hB3 hbe2
  have HT0 := Lib.hid hT
  have HL := Lib.hid (hl.below (Nat.le_refl _) hbe2)
  have HG := Lib.hid (hg.below (Nat.le_refl _) hbe2)
  have HP := Lib.hid (hp.below (Nat.le_refl _) hbe2)
  have HT := Lib.hid (And.intro (hT.be hbe2) (hT2.be hbe2))
  have HN := Lib.hid (And.intro hln (And.intro hll (And.intro hgn hpn)))
  have HB2 := Lib.hid hB2
  have HB3 := Lib.hid hB3
  have HBE := Lib.hid hbe2
  have c0 := Blk.cell (hB2) 0 (v := .int .i64 R) rfl
  have c1 := Blk.cell (hB2) 1 (v := .int .i64 C) rfl
  have c2 := Blk.cell (hB2) 2 (v := .int .i64 K) rfl
  have d0 := Blk.cell (hB3) 0 (v := .slice ga gn gc) rfl
  have d1 := Blk.cell (hB3) 1 (v := .slice pa pn pc) rfl
  have d2 := Blk.cell (hB3) 2 (v := .bool pad) rfl
  have ks := sure_any V R C K la ga pa ln lc gn gc pn pc pad l HT.out.2 hln hll HL.out
  have HSB : Hid (sureB R C K l gn pn = (l.all small && (okC R C K && decide (R = 256) && decide (l.length ≤ 20) && decide (gn ≤ 30) && decide (pn ≤ 64)))) := Lib.hid rfl
  obtain ⟨z, hz⟩ : ∃ z, sureB R C K l gn pn = z := ⟨_, rfl⟩
  rw [hz] at ks HSB
  clear hQ hB1 hbe1 hB2 hB3 hbe2 hl hg hp hT hT2 hln hll hgn hpn hz
  cases z with
  | false =>
    go_enter Tryz.func3, Tryz.ntmps3
    go_wp2_with fail
    (with_reducible refine (ks).mono ?_); rintro e1 W1 ⟨rfl, hb1⟩
    have hb2 := HBE.out.trans (hb1.mono HBE.out.size)
    have ka := LaE.awake_any W1 (HT.out.1.be hb1)
    clear ks c0 c1 c2 d0 d1 d2
    go_wp2_with fail
    (with_reducible refine (ka).mono ?_); rintro e2 W2 ⟨rfl, hb3⟩
    have hb4 := hb2.trans (hb3.mono hb2.size)
    clear ka hb3 hb2
    go_wp2_with fail
    rw [HR.out]
    exact ⟨rfl, hb4⟩
  | true =>
    have hs := HSB.out.symm
    simp only [Bool.and_eq_true, decide_eq_true_eq] at hs
    obtain ⟨_, ⟨⟨⟨hok, rfl⟩, hl20⟩, hg30⟩, hp64⟩ := hs
    unfold okC at hok
    simp only [Bool.and_eq_true, decide_eq_true_eq] at hok
    obtain ⟨⟨⟨⟨_, h1⟩, h2⟩, h3⟩, h4⟩ := hok
    obtain ⟨C', rfl⟩ : ∃ C' : Nat, C = (C' : Int) := ⟨C.toNat, by omega⟩
    obtain ⟨K', rfl⟩ : ∃ K' : Nat, K = (K' : Int) := ⟨K.toNat, by omega⟩
    obtain rfl : l.length = ln := HN.out.1
    have HC := Lib.hid (show C' ≤ 191 ∧ 1 ≤ C' ∧ K' ≤ 64 from ⟨by omega, by omega, by omega⟩)
    clear h1 h2 h3 h4 HSB
    go_enter Tryz.func3, Tryz.ntmps3
    go_wp2_with fail
    (with_reducible refine (ks).mono ?_); rintro e1 W1 ⟨rfl, hb1⟩
    have hbW1 := HBE.out.trans (hb1.mono HBE.out.size)
    have hB3' := Blk.below HB3.out hb1 HB3.out.lt
    have hB2' := Blk.below HB2.out hb1 HB2.out.lt
    have f0 := Blk.cell (hB2') 0 (v := .int .i64 256) rfl
    have f1 := Blk.cell (hB2') 1 (v := .int .i64 (C' : Int)) rfl
    have f2 := Blk.cell (hB2') 2 (v := .int .i64 (K' : Int)) rfl
    have h0 := Blk.cell (hB3') 0 (v := .slice ga gn gc) rfl
    have h1 := Blk.cell (hB3') 1 (v := .slice pa pn pc) rfl
    have h2 := Blk.cell (hB3') 2 (v := .bool pad) rfl
    have kse := sent_any W1 C' K' la ga pa lc gn gc pn pc pad l g p (HT.out.1.be hb1) (HT.out.2.be hb1) HC.out.1 HC.out.2.1 HC.out.2.2 (HL.out.below (Nat.le_refl _) hb1) hl20 (HG.out.below (Nat.le_refl _) hb1) HN.out.2.2.1 (by omega) (HP.out.below (Nat.le_refl _) hb1) HN.out.2.2.2 (by omega)
    clear ks hb1 c0 c1 c2 d0 d1 d2
    go_wp2_with fail
    (with_reducible refine (kse).mono ?_); rintro e2 W2 ⟨⟨gf, gr, v, gt, g2, u, rfl, hFT⟩, hb2⟩
    have HSZ := Lib.hid hbW1.size
    have hbW2 := hbW1.trans (hb2.mono hbW1.size)
    have HB2 := Lib.hid (Blk.below hB2' hb2 hB2'.lt)
    clear kse hb2 hB3' hB2' f0 f1 f2 h0 h1 h2 hbW1
    have HFS : Hid (OkL (frS C' K' l) ∧ (frS C' K' l).R = 256 ∧ (frS C' K' l).L.length ≤ 20 ∧ LayF (frS C' K' l)) := Lib.hid (by
      have q1 := frK_R 256 C' K' l l.length
      have q2 := frK_len 256 C' K' l l.length
      exact ⟨frK_ok (by decide) (by decide) HC.out.1 l _, q1.1, Nat.le_trans q2 hl20, lay_frK (by decide) (by decide) HC.out.1 l _⟩)
    have HKN := Lib.hid (kn_sent C' K' l g p pad HC.out.1)
    have HTO := Lib.hid (ts_ok C' K' l g p pad hl20)
    obtain ⟨F, hF⟩ : ∃ F, frS C' K' l = F := ⟨_, rfl⟩
    obtain ⟨T, hT⟩ : ∃ T, tbS C' K' l g p pad = T := ⟨_, rfl⟩
    rw [hF, hT] at hFT HKN
    rw [hT] at HTO
    rw [hF] at HFS
    have hpl := parS_L F (64 - K')
    have hpok := FrC.par_ok HFS.out.1.ok (64 - K')
    obtain ⟨FP, hFP⟩ : ∃ FP, FrC.parS F (64 - K') = FP := ⟨_, rfl⟩
    rw [hFP] at hFT hpl hpok
    have HPL := Lib.hid (And.intro hpl hpok)
    have HTR := Lib.hid (show T.R = 256 from HKN.out.R)
    have hBst : ∀ z, BF F g z → ∃ x ∈ F.L, z = x.1 := fun z ⟨j, x, _, _, hx, e⟩ => ⟨x, List.mem_of_getElem? hx, e⟩
    have HSE := Lib.hid (mended_sees HKN.out HTO.out hBst)
    have HRO : Hid (∀ r, r < T.R → RowOf T r (rowC F r)) := Lib.hid (fun r hr => HKN.out.row HFS.out.2.2.2 HFS.out.2.1 r hr)
    have HFT := Lib.hid hFT
    clear hF hT hFP hpl hpok hBst hFT
    go_wp2_with fail
    go_loopw [10, 11, 12] (fun mv fv iv W => ∃ i : Nat, i ≤ 256 ∧ iv = .int .i64 i ∧ mv = .int .i64 (cntM T i : Nat) ∧ fv = .int .i64 (cntF T i : Nat) ∧ Below W2.heap.size W2 W) (fun _ _ iv _ => 256 - (intOf iv).toNat)
    case atStart => exact ⟨0, by omega, rfl, rfl, rfl, Below.refl _ _⟩
    case round =>
      obtain ⟨i, hi, rfl, rfl, rfl, hbe⟩ := hrel
      have i0 : (0 : Int) ≤ (i : Int) := Int.natCast_nonneg _
      have hB6 := Blk.below HB2.out hbe HB2.out.lt
      have e0 := Blk.cell hB6 0 (v := .int .i64 256) rfl
      by_cases hin : i < 256
      · have t0 : decide ((i : Int) < 256) = true := decide_eq_true (by omega)
        have kl := TbQ.Lost_any wr W1.heap.size gt g2 (i : Int) u T (HFT.out.t.below hbe)
        rw [if_pos ⟨by omega, by rw [HTR.out]; omega⟩, if_pos ⟨by omega, by rw [HTR.out]; omega⟩, Int.toNat_natCast] at kl
        have HM := Lib.hid (cntM_step T i)
        have HF := Lib.hid (cntF_step T i)
        have hm1 : (cntM T i : Int) ≤ 1024 := by have := cntM_le T i; omega
        have hf1 : (cntF T i : Int) ≤ 1024 := by have := cntF_le T i; omega
        have hm0 : (0 : Int) ≤ (cntM T i : Int) := Int.natCast_nonneg _
        have hf0 : (0 : Int) ≤ (cntF T i : Int) := Int.natCast_nonneg _
        have HOK := Lib.hid (show okR T i = decide (0 < (lostL T i).length ∧ (lostL T i).length ≤ 64) from rfl)
        have HBD := Lib.hid (show badR T i = decide (64 < (lostL T i).length) from rfl)
        obtain ⟨m, hm⟩ : ∃ m, cntM T i = m := ⟨_, rfl⟩
        obtain ⟨f, hf⟩ : ∃ f, cntF T i = f := ⟨_, rfl⟩
        obtain ⟨n, hn⟩ : ∃ n, (lostL T i).length = n := ⟨_, rfl⟩
        rw [hm] at hm1 hm0 HM ⊢
        rw [hf] at hf1 hf0 HF ⊢
        rw [hn] at kl HOK HBD
        clear hm hf hn hB6
        go_wp2_with fail
        (with_reducible refine (kl).mono ?_); rintro e3 W3 ⟨hb3, rfl⟩
        have hbe3 := hbe.trans (hb3.mono hbe.size)
        clear kl hb3 hbe e0
        by_cases h64 : 64 < n
        · have t1 : decide ((64 : Int) < (n : Int)) = true := decide_eq_true (by omega)
          have t1' : decide (64 < n) = true := decide_eq_true h64
          rw [show okR T i = false by rw [HOK.out]; exact decide_eq_false (by omega)] at HM
          rw [show badR T i = true by rw [HBD.out]; exact t1'] at HF
          clear h64
          go_wp2_with fail
          go_roundw
          case rel => exact ⟨i + 1, by omega, by go_num, by rw [HM.out]; rfl, by rw [HF.out]; go_num, hbe3⟩
          case measure => simp [intOf]; omega
        · have t1 : decide ((64 : Int) < (n : Int)) = false := decide_eq_false (by omega)
          have t1' : decide (64 < n) = false := decide_eq_false h64
          rw [show badR T i = false by rw [HBD.out]; exact t1'] at HF
          by_cases h0 : 0 < n
          · have t2 : decide ((0 : Int) < (n : Int)) = true := decide_eq_true (by omega)
            have t2' : decide (0 < n) = true := decide_eq_true h0
            rw [show okR T i = true by rw [HOK.out]; exact decide_eq_true (by omega)] at HM
            clear h64 h0
            go_wp2_with fail
            go_roundw
            case rel => exact ⟨i + 1, by omega, by go_num, by rw [HM.out]; go_num, by rw [HF.out]; rfl, hbe3⟩
            case measure => simp [intOf]; omega
          · have t2 : decide ((0 : Int) < (n : Int)) = false := decide_eq_false (by omega)
            have t2' : decide (0 < n) = false := decide_eq_false h0
            rw [show okR T i = false by rw [HOK.out]; exact decide_eq_false (by omega)] at HM
            clear h64 h0
            go_wp2_with fail
            go_roundw
            case rel => exact ⟨i + 1, by omega, by go_num, by rw [HM.out]; rfl, by rw [HF.out]; rfl, hbe3⟩
            case measure => simp [intOf]; omega
      · obtain rfl : i = 256 := by omega
        have t0 : decide (((256 : Nat) : Int) < 256) = false := by decide
        have hFT3 := HFT.out.below hbe
        have hbW3 := hbW2.trans (hbe.mono hbW2.size)
        have km := TbW.mend_any wr W1.heap.size gt g2 u T (rowC F) hFT3.t (by rw [HTR.out]; decide) HRO.out
        have HM2 := Lib.hid (again_M T (rowC F))
        have HF2 := Lib.hid (again_F T (rowC F))
        have HRO2 : Hid (∀ r, r < T.R → RowOf (mdS T (rowC F) T.R) r (rowC F r)) := Lib.hid (fun r hr => mdS_good T (rowC F) T.R r hr (HRO.out r hr))
        have HWH : Hid (cntF T 256 = 0 → ∀ x ∈ F.L, Whole (mdS T (rowC F) 256) x) := Lib.hid (fun h x hx i hi => mended_whole HTR.out h (rowC F) _ (by
          have h1 := chain_in HFS.out.1.ch x hx
          have h2 := HFS.out.1.ok.u
          have h3 : F.R * F.C ≤ 256 * 191 := by rw [HFS.out.2.1]; exact Nat.mul_le_mul_left _ HFS.out.1.ok.C
          omega))
        rw [HTR.out] at km HM2 HF2 HRO2
        have HS2R := Lib.hid (show (mdS T (rowC F) 256).R = 256 from HTR.out)
        obtain ⟨S, hS⟩ : ∃ S, mdS T (rowC F) 256 = S := ⟨_, rfl⟩
        rw [hS] at km HM2 HF2 HRO2 HWH HS2R HSE
        have hm1 : (cntM T 256 : Int) ≤ 1024 := by have := cntM_le T 256; omega
        have hf1 : (cntF T 256 : Int) ≤ 1024 := by have := cntF_le T 256; omega
        obtain ⟨m1, hm⟩ : ∃ m, cntM T 256 = m := ⟨_, rfl⟩
        obtain ⟨f, hf⟩ : ∃ f, cntF T 256 = f := ⟨_, rfl⟩
        rw [hm] at km hm1 ⊢
        rw [hf] at km hf1 HF2 HWH ⊢
        have hm0 : (0 : Int) ≤ (m1 : Int) := Int.natCast_nonneg _
        have hf0 : (0 : Int) ≤ (f : Int) := Int.natCast_nonneg _
        clear hm hf hS hB6 hbW2 hbe
        go_wp2_with fail
        (with_reducible refine (km).mono ?_); rintro e3 W3 ⟨rfl, hT3, hk3⟩
        have hFT4 := hFT3.table hT3 (far_refl _ _) (hk3.mono (fun i _ e => Or.inr (Or.inl e)))
        have hbW4 := hbW3.trans (hk3.be hbW3.size (fun i e => by subst e; exact Nat.le_trans HSZ.out hFT3.t.br))
        have HT4 := Lib.hid hFT4.t
        have kp := FrB.placed_any W3 W1.heap.size gf gr v FP hFT4.f HPL.out.2
        rw [HPL.out.1] at kp
        clear km hT3 hk3 hFT3 hbW3
        go_wp2_with fail
        (with_reducible refine (kp).mono ?_); rintro e4 W4 ⟨hb4, pv, rfl, hown4⟩
        obtain ⟨pa2, pc2, hpv⟩ := own_form hown4
        subst hpv
        have HT5 := Lib.hid (HT4.out.below hb4)
        have ko := out_any W4 W1.heap.size gt g2 u S HT5.out HSE.out.ok
        have hbW5 := hbW4.trans (hb4.mono hbW4.size)
        clear kp hb4 hFT4 hbW4 HT4
        go_wp2_with fail
        (with_reducible refine (ko).mono ?_); rintro e5 W5 ⟨hb5, ov, rfl, hown5⟩
        obtain ⟨oa, oc, hov⟩ := own_form hown5
        subst hov
        have HT6 := Lib.hid (HT5.out.below hb5)
        have HBW := Lib.hid (hbW5.trans (hb5.mono hbW5.size))
        obtain ⟨M, hsub, hout, htx, hall⟩ := sees_out HFS.out.2.2.2 HFS.out.2.1 HFS.out.1 HSE.out
        have hSP := own_seq enPd_len (own_below hown4 hb5) rfl
        have hSO := own_seq (en := enPl S) (sz := 2) (fun _ => rfl) hown5 rfl
        rw [hout] at hSO ⊢
        rw [List.length_map]
        have HSP := Lib.hid hSP
        have HSO := Lib.hid hSO
        have HTX := Lib.hid htx
        have HMF : Hid (f = 0 → M.length = F.L.length) := Lib.hid (fun h => by rw [hall (HWH.out h)])
        have hlen := hsub.length_le
        have HSUB := Lib.hid hsub
        obtain ⟨m, hm⟩ : ∃ m, F.L.length = m := ⟨_, rfl⟩
        have HM := Lib.hid hm
        obtain ⟨dn, hdn⟩ : ∃ dn, M.length = dn := ⟨_, rfl⟩
        have HDN := Lib.hid hdn
        rw [hm, hdn] at hlen HMF
        rw [hm, hdn]
        have hm20 : m ≤ 20 := by have := HFS.out.2.2.1; omega
        clear ko hb5 hown4 hown5 hbW5 hSP hSO hm hdn hsub hout htx hall HT5
        by_cases hf0 : f = 0
        · have t1 : ((f : Int) == 0) = true := by rw [hf0]; rfl
          have t2 : ((dn : Int) != (m : Int)) = false := by rw [HMF.out hf0]; simp
          have t2' : ((dn : Int) == (m : Int)) = true := by rw [HMF.out hf0]; simp
          clear hf0
          go_wp2_with fail
          go_loopw [19, 20] (fun kv iv W => ∃ i k : Nat, i ≤ dn ∧ k ≤ m ∧ iv = .int .i64 i ∧ kv = .int .i64 k ∧ (M.drop i).Sublist (F.L.drop k) ∧ Below W5.heap.size W5 W) (fun _ iv _ => dn - (intOf iv).toNat)
          case atStart => exact ⟨0, 0, by omega, by omega, rfl, rfl, HSUB.out, Below.refl _ _⟩
          case round =>
            obtain ⟨i, k, hi, hk, rfl, rfl, hsub, hbe⟩ := hrel
            have i0 : (0 : Int) ≤ (i : Int) := Int.natCast_nonneg _
            by_cases hin : i < dn
            · have t3 : decide ((i : Int) < (dn : Int)) = true := decide_eq_true (by omega)
              have t3' : decide (i < dn) = true := decide_eq_true hin
              have i1 : (i : Int) < (dn : Int) := by omega
              obtain ⟨y, hy⟩ : ∃ y, M[i]? = some y := ⟨_, List.getElem?_eq_getElem (by rw [HDN.out]; exact hin)⟩
              have HY := Lib.hid hy
              obtain ⟨b2, o2, rfl, hlt2, hc2⟩ := HSO.out i (y.1, y.2.size) (by rw [List.getElem?_map, hy]; rfl)
              rw [off_eq] at hc2
              have d1 := hc2 0 (.int .i64 (y.1 : Int)) rfl
              have d2 := hc2 1 (.string y.2) (by
                show (enPl S (y.1, y.2.size))[1]? = _
                rw [show enPl S (y.1, y.2.size) = [.int .i64 (y.1 : Int), .string (str (bytesL S y.1 y.2.size))] from rfl, HTX.out y (List.mem_of_getElem? hy), str_bl]
                rfl)
              have HD := Lib.hid (And.intro hlt2 (And.intro d1 d2))
              have i20 : (i : Int) ≤ 20 := by omega
              clear hy hlt2 hc2 d1 d2
              go_wp2_with fail
              go_loopw [19] (fun kv W => ∃ k : Nat, k ≤ m ∧ kv = .int .i64 k ∧ (M.drop i).Sublist (F.L.drop k) ∧ Below W5.heap.size W5 W) (fun kv _ => m - (intOf kv).toNat)
              case atStart => exact ⟨k, hk, rfl, hsub, hbe⟩
              case round =>
                clear hsub hbe hk
                obtain ⟨k, hk, rfl, hsub, hbe⟩ := hrel
                have k0 : (0 : Int) ≤ (k : Int) := Int.natCast_nonneg _
                obtain ⟨z, hz, z1, z2⟩ := seek HFS.out.1.ch hsub HY.out
                have hkm : k < m := by rw [← HM.out]; exact (List.getElem?_eq_some_iff.1 hz).1
                have k1 : (k : Int) < (m : Int) := by omega
                have k20 : (k : Int) ≤ 20 := by omega
                have t4 : decide ((k : Int) < (m : Int)) = true := decide_eq_true (by omega)
                have t4' : decide (k < m) = true := decide_eq_true hkm
                have t5 : ((k : Int) == (m : Int)) = false := beq_eq_false_iff_ne.2 (by omega)
                obtain ⟨b1, o1, rfl, hlt1, hc1⟩ := HSP.out k z hz
                rw [off_eq] at hc1
                have e1 := hc1 0 (.int .i64 (z.1 : Int)) rfl
                have e2 := hc1 1 (.string z.2) rfl
                obtain ⟨hlt2, d1, d2⟩ := HD.out
                have q1 := fun pX => (World.cell?_of_block (a := ⟨b1, o1 + k * 2, none⟩) ((hbe.trans ((below_ext wr pX).mono hbe.size)).block b1 hlt1)).trans e1
                have q3 := fun pX => (World.cell?_of_block (a := ⟨b2, o2 + i * 2, none⟩) ((hbe.trans ((below_ext wr pX).mono hbe.size)).block b2 hlt2)).trans d1
                have HE := Lib.hid (And.intro hlt1 (And.intro e2 (And.intro hlt2 d2)))
                have HZ1 := Lib.hid z1
                have HZ2 := Lib.hid z2
                clear hz hlt1 hc1 e1 e2 hlt2 d1 d2 hsub z1 z2
                by_cases he : z.1 = y.1
                · have t6 : ((z.1 : Int) != (y.1 : Int)) = false := by rw [he]; simp
                  have t6' : ((z.1 : Int) == (y.1 : Int)) = true := by rw [he]; simp
                  obtain ⟨hzy, hs2⟩ := HZ2.out he
                  have HS2 := Lib.hid hs2
                  have HZY := Lib.hid hzy
                  clear he hzy hs2
                  go_wp2_with fail
                  refine Go.Proofs.YtlocgilgdnhnlaaGreatDoor.Q.region_ext (by kernel_rfl) (by kernel_rfl) ?_
                  repeat (go_big_quiet_step (fail))
                  refine wpQuiet_nil ?_
                  rintro w9 ⟨pq, rfl⟩
                  have hbe9 := hbe.trans ((below_ext wr pq).mono hbe.size)
                  obtain ⟨W6, hW6⟩ : ∃ W6, ext wr pq = W6 := ⟨_, rfl⟩
                  rw [hW6] at hbe9 ⊢
                  have q5 := fun pX => (World.cell?_of_block (a := ⟨b1, o1 + k * 2 + 1, none⟩) ((hbe9.trans ((below_ext W6 pX).mono hbe9.size)).block b1 HE.out.1)).trans HE.out.2.1
                  have q6 := fun pX => (World.cell?_of_block (a := ⟨b2, o2 + i * 2 + 1, none⟩) ((hbe9.trans ((below_ext W6 pX).mono hbe9.size)).block b2 HE.out.2.2.1)).trans HE.out.2.2.2
                  rw [HZY.out] at q5
                  clear q1 q3 hbe hW6
                  go_wp2_with fail
                  refine Go.Proofs.YtlocgilgdnhnlaaGreatDoor.Q.region_ext (by kernel_rfl) (by kernel_rfl) ?_
                  repeat (go_big_quiet_step (fail))
                  refine wpQuiet_nil ?_
                  rintro w9 ⟨pq2, rfl⟩
                  have hbe10 := hbe9.trans ((below_ext W6 pq2).mono hbe9.size)
                  clear q5 q6 hbe9
                  go_wp2_with fail
                  go_roundw
                  case rel => exact ⟨i + 1, k + 1, by omega, by omega, by go_num, by go_num, HS2.out, hbe10⟩
                  case measure => simp [intOf]; omega
                · have t6 : ((z.1 : Int) != (y.1 : Int)) = true := by simpa using (by omega : ¬ (z.1 : Int) = (y.1 : Int))
                  have t6' : ((z.1 : Int) == (y.1 : Int)) = false := beq_eq_false_iff_ne.2 (by omega)
                  have HS2 := Lib.hid (HZ1.out he)
                  clear he
                  go_wp2_with fail
                  refine Go.Proofs.YtlocgilgdnhnlaaGreatDoor.Q.region_ext (by kernel_rfl) (by kernel_rfl) ?_
                  repeat (go_big_quiet_step (fail))
                  refine wpQuiet_nil ?_
                  rintro w9 ⟨pq, rfl⟩
                  have hbe9 := hbe.trans ((below_ext wr pq).mono hbe.size)
                  clear q1 q3 hbe
                  go_wp2_with fail
                  go_roundw
                  case rel => exact ⟨k + 1, by omega, by go_num, HS2.out, hbe9⟩
                  case measure => simp [intOf]; omega
            · obtain rfl : i = dn := by omega
              have t3 : decide ((i : Int) < (i : Int)) = false := decide_eq_false (by omega)
              have t3' : decide (i < i) = false := decide_eq_false (by omega)
              have km2 := TbW.mend_any wr W1.heap.size gt g2 u S (rowC F) (HT6.out.below hbe) (by rw [HS2R.out]; decide) (by rw [HS2R.out]; exact HRO2.out)
              rw [HS2R.out, HM2.out, HF2.out] at km2
              have hbw := HBW.out.trans (hbe.mono HBW.out.size)
              have hg2 := HT6.out.br
              clear hsub hbe
              go_wp2_with fail
              (with_reducible refine (km2).mono ?_); rintro e7 W7 ⟨rfl, hT7, hk7⟩
              have hbw7 := hbw.trans (hk7.be hbw.size (fun i e => by subst e; exact Nat.le_trans HSZ.out hg2))
              have ka := LaE.awake_any W7 (HT0.out.be hbw7)
              clear km2 hT7 hk7 hbw
              go_wp2_with fail
              (with_reducible refine (ka).mono ?_); rintro e8 W8 ⟨rfl, hb8⟩
              have hbw8 := hbw7.trans (hb8.mono hbw7.size)
              clear ka hb8
              go_wp2_with fail
              rw [HR.out]
              exact ⟨rfl, hbw8⟩
        · have t1 : ((f : Int) == 0) = false := beq_eq_false_iff_ne.2 (by omega)
          clear hf0
          go_wp2_with fail
          go_loopw [19, 20] (fun kv iv W => ∃ i k : Nat, i ≤ dn ∧ k ≤ m ∧ iv = .int .i64 i ∧ kv = .int .i64 k ∧ (M.drop i).Sublist (F.L.drop k) ∧ Below W5.heap.size W5 W) (fun _ iv _ => dn - (intOf iv).toNat)
          case atStart => exact ⟨0, 0, by omega, by omega, rfl, rfl, HSUB.out, Below.refl _ _⟩
          case round =>
            obtain ⟨i, k, hi, hk, rfl, rfl, hsub, hbe⟩ := hrel
            have i0 : (0 : Int) ≤ (i : Int) := Int.natCast_nonneg _
            by_cases hin : i < dn
            · have t3 : decide ((i : Int) < (dn : Int)) = true := decide_eq_true (by omega)
              have t3' : decide (i < dn) = true := decide_eq_true hin
              have i1 : (i : Int) < (dn : Int) := by omega
              obtain ⟨y, hy⟩ : ∃ y, M[i]? = some y := ⟨_, List.getElem?_eq_getElem (by rw [HDN.out]; exact hin)⟩
              have HY := Lib.hid hy
              obtain ⟨b2, o2, rfl, hlt2, hc2⟩ := HSO.out i (y.1, y.2.size) (by rw [List.getElem?_map, hy]; rfl)
              rw [off_eq] at hc2
              have d1 := hc2 0 (.int .i64 (y.1 : Int)) rfl
              have d2 := hc2 1 (.string y.2) (by
                show (enPl S (y.1, y.2.size))[1]? = _
                rw [show enPl S (y.1, y.2.size) = [.int .i64 (y.1 : Int), .string (str (bytesL S y.1 y.2.size))] from rfl, HTX.out y (List.mem_of_getElem? hy), str_bl]
                rfl)
              have HD := Lib.hid (And.intro hlt2 (And.intro d1 d2))
              have i20 : (i : Int) ≤ 20 := by omega
              clear hy hlt2 hc2 d1 d2
              go_wp2_with fail
              go_loopw [19] (fun kv W => ∃ k : Nat, k ≤ m ∧ kv = .int .i64 k ∧ (M.drop i).Sublist (F.L.drop k) ∧ Below W5.heap.size W5 W) (fun kv _ => m - (intOf kv).toNat)
              case atStart => exact ⟨k, hk, rfl, hsub, hbe⟩
              case round =>
                clear hsub hbe hk
                obtain ⟨k, hk, rfl, hsub, hbe⟩ := hrel
                have k0 : (0 : Int) ≤ (k : Int) := Int.natCast_nonneg _
                obtain ⟨z, hz, z1, z2⟩ := seek HFS.out.1.ch hsub HY.out
                have hkm : k < m := by rw [← HM.out]; exact (List.getElem?_eq_some_iff.1 hz).1
                have k1 : (k : Int) < (m : Int) := by omega
                have k20 : (k : Int) ≤ 20 := by omega
                have t4 : decide ((k : Int) < (m : Int)) = true := decide_eq_true (by omega)
                have t4' : decide (k < m) = true := decide_eq_true hkm
                have t5 : ((k : Int) == (m : Int)) = false := beq_eq_false_iff_ne.2 (by omega)
                obtain ⟨b1, o1, rfl, hlt1, hc1⟩ := HSP.out k z hz
                rw [off_eq] at hc1
                have e1 := hc1 0 (.int .i64 (z.1 : Int)) rfl
                have e2 := hc1 1 (.string z.2) rfl
                obtain ⟨hlt2, d1, d2⟩ := HD.out
                have q1 := fun pX => (World.cell?_of_block (a := ⟨b1, o1 + k * 2, none⟩) ((hbe.trans ((below_ext wr pX).mono hbe.size)).block b1 hlt1)).trans e1
                have q3 := fun pX => (World.cell?_of_block (a := ⟨b2, o2 + i * 2, none⟩) ((hbe.trans ((below_ext wr pX).mono hbe.size)).block b2 hlt2)).trans d1
                have HE := Lib.hid (And.intro hlt1 (And.intro e2 (And.intro hlt2 d2)))
                have HZ1 := Lib.hid z1
                have HZ2 := Lib.hid z2
                clear hz hlt1 hc1 e1 e2 hlt2 d1 d2 hsub z1 z2
                by_cases he : z.1 = y.1
                · have t6 : ((z.1 : Int) != (y.1 : Int)) = false := by rw [he]; simp
                  have t6' : ((z.1 : Int) == (y.1 : Int)) = true := by rw [he]; simp
                  obtain ⟨hzy, hs2⟩ := HZ2.out he
                  have HS2 := Lib.hid hs2
                  have HZY := Lib.hid hzy
                  clear he hzy hs2
                  go_wp2_with fail
                  refine Go.Proofs.YtlocgilgdnhnlaaGreatDoor.Q.region_ext (by kernel_rfl) (by kernel_rfl) ?_
                  repeat (go_big_quiet_step (fail))
                  refine wpQuiet_nil ?_
                  rintro w9 ⟨pq, rfl⟩
                  have hbe9 := hbe.trans ((below_ext wr pq).mono hbe.size)
                  obtain ⟨W6, hW6⟩ : ∃ W6, ext wr pq = W6 := ⟨_, rfl⟩
                  rw [hW6] at hbe9 ⊢
                  have q5 := fun pX => (World.cell?_of_block (a := ⟨b1, o1 + k * 2 + 1, none⟩) ((hbe9.trans ((below_ext W6 pX).mono hbe9.size)).block b1 HE.out.1)).trans HE.out.2.1
                  have q6 := fun pX => (World.cell?_of_block (a := ⟨b2, o2 + i * 2 + 1, none⟩) ((hbe9.trans ((below_ext W6 pX).mono hbe9.size)).block b2 HE.out.2.2.1)).trans HE.out.2.2.2
                  rw [HZY.out] at q5
                  clear q1 q3 hbe hW6
                  go_wp2_with fail
                  refine Go.Proofs.YtlocgilgdnhnlaaGreatDoor.Q.region_ext (by kernel_rfl) (by kernel_rfl) ?_
                  repeat (go_big_quiet_step (fail))
                  refine wpQuiet_nil ?_
                  rintro w9 ⟨pq2, rfl⟩
                  have hbe10 := hbe9.trans ((below_ext W6 pq2).mono hbe9.size)
                  clear q5 q6 hbe9
                  go_wp2_with fail
                  go_roundw
                  case rel => exact ⟨i + 1, k + 1, by omega, by omega, by go_num, by go_num, HS2.out, hbe10⟩
                  case measure => simp [intOf]; omega
                · have t6 : ((z.1 : Int) != (y.1 : Int)) = true := by simpa using (by omega : ¬ (z.1 : Int) = (y.1 : Int))
                  have t6' : ((z.1 : Int) == (y.1 : Int)) = false := beq_eq_false_iff_ne.2 (by omega)
                  have HS2 := Lib.hid (HZ1.out he)
                  clear he
                  go_wp2_with fail
                  refine Go.Proofs.YtlocgilgdnhnlaaGreatDoor.Q.region_ext (by kernel_rfl) (by kernel_rfl) ?_
                  repeat (go_big_quiet_step (fail))
                  refine wpQuiet_nil ?_
                  rintro w9 ⟨pq, rfl⟩
                  have hbe9 := hbe.trans ((below_ext wr pq).mono hbe.size)
                  clear q1 q3 hbe
                  go_wp2_with fail
                  go_roundw
                  case rel => exact ⟨k + 1, by omega, by go_num, HS2.out, hbe9⟩
                  case measure => simp [intOf]; omega
            · obtain rfl : i = dn := by omega
              have t3 : decide ((i : Int) < (i : Int)) = false := decide_eq_false (by omega)
              have t3' : decide (i < i) = false := decide_eq_false (by omega)
              have km2 := TbW.mend_any wr W1.heap.size gt g2 u S (rowC F) (HT6.out.below hbe) (by rw [HS2R.out]; decide) (by rw [HS2R.out]; exact HRO2.out)
              rw [HS2R.out, HM2.out, HF2.out] at km2
              have hbw := HBW.out.trans (hbe.mono HBW.out.size)
              have hg2 := HT6.out.br
              clear hsub hbe
              go_wp2_with fail
              (with_reducible refine (km2).mono ?_); rintro e7 W7 ⟨rfl, hT7, hk7⟩
              have hbw7 := hbw.trans (hk7.be hbw.size (fun i e => by subst e; exact Nat.le_trans HSZ.out hg2))
              have ka := LaE.awake_any W7 (HT0.out.be hbw7)
              clear km2 hT7 hk7 hbw
              go_wp2_with fail
              (with_reducible refine (ka).mono ?_); rintro e8 W8 ⟨rfl, hb8⟩
              have hbw8 := hbw7.trans (hb8.mono hbw7.size)
              clear ka hb8
              go_wp2_with fail
              rw [HR.out]
              exact ⟨rfl, hbw8⟩
end Go.Proofs.YtlocgilgdnhnlaaGreatDoor.MeA
