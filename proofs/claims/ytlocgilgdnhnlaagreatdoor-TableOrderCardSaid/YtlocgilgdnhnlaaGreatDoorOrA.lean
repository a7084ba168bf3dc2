/- TableOrder, walked. -/
import Derived.Test.YtlocgilgdnhnlaaGreatDoorLaS
namespace Go.Proofs.YtlocgilgdnhnlaaGreatDoor.OrA
open Go Go.RowKit Go.Proofs.YtlocgilgdnhnlaaGreatDoor.Q Go.Proofs.YtlocgilgdnhnlaaGreatDoor.Mem Go.Proofs.YtlocgilgdnhnlaaGreatDoor.Rg Go.Proofs.YtlocgilgdnhnlaaGreatDoor.Ap Go.Proofs.YtlocgilgdnhnlaaGreatDoor.St Go.Proofs.YtlocgilgdnhnlaaGreatDoor.CrB Go.Proofs.YtlocgilgdnhnlaaGreatDoor.Tab Go.Proofs.YtlocgilgdnhnlaaGreatDoor.Ints Go.Proofs.YtlocgilgdnhnlaaGreatDoor.TlS Go.Proofs.YtlocgilgdnhnlaaGreatDoor.TbM Go.Proofs.YtlocgilgdnhnlaaGreatDoor.TbO Go.Proofs.YtlocgilgdnhnlaaGreatDoor.TbP Go.Proofs.YtlocgilgdnhnlaaGreatDoor.TbQ Go.Proofs.YtlocgilgdnhnlaaGreatDoor.TbT Go.Proofs.YtlocgilgdnhnlaaGreatDoor.TbU Go.Proofs.YtlocgilgdnhnlaaGreatDoor.TbV Go.Proofs.YtlocgilgdnhnlaaGreatDoor.TbW Go.Proofs.YtlocgilgdnhnlaaGreatDoor.FrA Go.Proofs.YtlocgilgdnhnlaaGreatDoor.FrB Go.Proofs.YtlocgilgdnhnlaaGreatDoor.LaG Go.Proofs.YtlocgilgdnhnlaaGreatDoor.LaH Go.Proofs.YtlocgilgdnhnlaaGreatDoor.LaI Go.Proofs.YtlocgilgdnhnlaaGreatDoor.LaP Go.Proofs.YtlocgilgdnhnlaaGreatDoor.LaQ Go.Proofs.YtlocgilgdnhnlaaGreatDoor.LaR Go.Proofs.YtlocgilgdnhnlaaGreatDoor.LaS

set_option maxRecDepth 100000
theorem parS_L (F : Fr) (k : Nat) : (FrC.parS F k).L = F.L := by
  unfold FrC.parS FrC.freshS
  split
  · rfl
  · split <;> rfl
theorem up_step (F : Fr) (n : Nat) (p : List Int) (pad : Bool) (q : Nat) (hq : q < n) : upS F n p pad (n - q) = if (q : Int) ∈ p then upS F n p pad (n - (q + 1)) else TbR.parS (upS F n p pad (n - (q + 1))) (q : Int) ((FrC.parL F n).getD q nob) := by
  unfold upS
  rw [show n - q = (n - (q + 1)) + 1 by omega, tbP_succ, show rev n (n - (q + 1)) = q by unfold rev; omega]
theorem ug_step (F : Fr) (n : Nat) (g p : List Int) (pad : Bool) (q : Nat) (hq : q < F.L.length) : ugS F n g p pad (F.L.length - q) = if (q : Int) ∈ g then ugS F n g p pad (F.L.length - (q + 1)) else putS (ugS F n g p pad (F.L.length - (q + 1))) ((F.L.getD q (0, nob)).1 : Int) (F.L.getD q (0, nob)).2 := by
  unfold ugS
  rw [show F.L.length - q = (F.L.length - (q + 1)) + 1 by omega, tbG_succ, show rev F.L.length (F.L.length - (q + 1)) = q by unfold rev; omega]
theorem eqPl (a : Int) (s : ByteArray) (w : World) : (Op.equalIn 10000 44 (.agg #[.int .i64 a, .string s]) (.agg #[.int .i64 a, .string s])).run Tryz.prog w = .ok true w := by
  have hS : Tryz.prog.underlying 44 = some (.struct (Tryz.prog.fieldsOf 44)) := by kernel_rfl
  have hp : Tryz.prog.stoodInHeld 44 = false := by kernel_rfl
  rw [show (10000 : Nat) = 9999 + 1 from rfl, run_equalIn_agg w 9999 44 _ _ hS hp]
  simp only [Program.fieldsOf, Tryz.underlying44]
  go_simp
set_option maxHeartbeats 6400000 in
theorem law_any (w : World) (R C K : Int) (la ga pa : Option Addr) (ln lc gn gc pn pc : Nat) (pad : Bool) (l g p : List Int) (hT : Tab 0 w) (hT2 : Tab 1 w)
    (hl : Ints w la l) (hln : l.length = ln) (hll : ln ≤ 9223372036854775807) (hg : Ints w ga g) (hgn : g.length = gn) (hp : Ints w pa p) (hpn : p.length = pn) :
    Calls Tryz.prog 4 #[.agg #[.int .i64 R, .int .i64 C, .int .i64 K], .slice la ln lc, .agg #[.slice ga gn gc, .slice pa pn pc, .bool pad]] w fun e w' => e = .returned (.bool true) ∧ Below w.heap.size w w' := by
  obtain ⟨Q, hQ⟩ : ∃ Q : Ending → World → Prop, Q = (fun e w' => e = .returned (.bool true) ∧ Below w.heap.size w w') := ⟨_, rfl⟩
  rw [← hQ]
  have HR := Lib.hid hQ
  have hB1 := Blk.new w 23 #[.int .i64 R, .int .i64 C, .int .i64 K]
  have hbe1 := (Below.refl _ w).alloc (Nat.le_refl _) (.cells #[.int .i64 R, .int .i64 C, .int .i64 K] 23)
  have hB2 := hB1.alloc (.cells #[.slice ga gn gc, .slice pa pn pc, .bool pad] 26)
  have hB3 := Blk.newAt (w.alloc (.cells #[.int .i64 R, .int .i64 C, .int .i64 K] 23)) 26 #[.slice ga gn gc, .slice pa pn pc, .bool pad] (show w.heap.size + 1 = (w.alloc (.cells #[.int .i64 R, .int .i64 C, .int .i64 K] 23)).heap.size by simp)
  have hbe2 := hbe1.alloc hbe1.size (.cells #[.slice ga gn gc, .slice pa pn pc, .bool pad] 26)
  obtain ⟨V, hV⟩ : ∃ V, (w.alloc (.cells #[.int .i64 R, .int .i64 C, .int .i64 K] 23)).alloc (.cells #[.slice ga gn gc, .slice pa pn pc, .bool pad] 26) = V := ⟨_, rfl⟩
  rw [hV] at hB2 hB3 hbe2
  have HT0 := Lib.hid hT
  have HL := Lib.hid (hl.below (Nat.le_refl _) hbe2)
  have HG := Lib.hid (hg.below (Nat.le_refl _) hbe2)
  have HP := Lib.hid (hp.below (Nat.le_refl _) hbe2)
  have HT := Lib.hid (And.intro (hT.be hbe2) (hT2.be hbe2))
  have HN := Lib.hid (And.intro hln (And.intro hll (And.intro hgn hpn)))
  have HB2 := Lib.hid hB2
  have HB3 := Lib.hid hB3
  have HBE := Lib.hid hbe2
  have c0 := Blk.cell (hB2) 0 (v := .int .i64 R) rfl
  have c1 := Blk.cell (hB2) 1 (v := .int .i64 C) rfl
  have c2 := Blk.cell (hB2) 2 (v := .int .i64 K) rfl
  have d0 := Blk.cell (hB3) 0 (v := .slice ga gn gc) rfl
  have d1 := Blk.cell (hB3) 1 (v := .slice pa pn pc) rfl
  have d2 := Blk.cell (hB3) 2 (v := .bool pad) rfl
  have ks := sure_any V R C K la ga pa ln lc gn gc pn pc pad l HT.out.2 hln hll HL.out
  have HSB : Hid (sureB R C K l gn pn = (l.all small && (okC R C K && decide (R = 256) && decide (l.length ≤ 20) && decide (gn ≤ 30) && decide (pn ≤ 64)))) := Lib.hid rfl
  obtain ⟨z, hz⟩ : ∃ z, sureB R C K l gn pn = z := ⟨_, rfl⟩
  rw [hz] at ks HSB
  clear hQ hB1 hbe1 hB2 hB3 hbe2 hl hg hp hT hT2 hln hll hgn hpn hz
  cases z with
  | false =>
    go_enter Tryz.func4, Tryz.ntmps4
    go_wp2_with fail
    (with_reducible refine (ks).mono ?_); rintro e1 W1 ⟨rfl, hb1⟩
    have hb2 := HBE.out.trans (hb1.mono HBE.out.size)
    have ka := LaE.awake_any W1 (HT.out.1.be hb1)
    clear ks c0 c1 c2 d0 d1 d2
    go_wp2_with fail
    (with_reducible refine (ka).mono ?_); rintro e2 W2 ⟨rfl, hb3⟩
    have hb4 := hb2.trans (hb3.mono hb2.size)
    clear ka hb3 hb2
    go_wp2_with fail
    rw [HR.out]
    exact ⟨rfl, hb4⟩
  | true =>
    have hs := HSB.out.symm
    simp only [Bool.and_eq_true, decide_eq_true_eq] at hs
    obtain ⟨_, ⟨⟨⟨hok, rfl⟩, hl20⟩, hg30⟩, hp64⟩ := hs
    unfold okC at hok
    simp only [Bool.and_eq_true, decide_eq_true_eq] at hok
    obtain ⟨⟨⟨⟨_, h1⟩, h2⟩, h3⟩, h4⟩ := hok
    obtain ⟨C', rfl⟩ : ∃ C' : Nat, C = (C' : Int) := ⟨C.toNat, by omega⟩
    obtain ⟨K', rfl⟩ : ∃ K' : Nat, K = (K' : Int) := ⟨K.toNat, by omega⟩
    obtain rfl : l.length = ln := HN.out.1
    have HC := Lib.hid (show C' ≤ 191 ∧ 1 ≤ C' ∧ K' ≤ 64 from ⟨by omega, by omega, by omega⟩)
    clear h1 h2 h3 h4 HSB
    go_enter Tryz.func4, Tryz.ntmps4
    go_wp2_with fail
    (with_reducible refine (ks).mono ?_); rintro e1 W1 ⟨rfl, hb1⟩
    have HV1 := Lib.hid hb1
    have hbW1 := HBE.out.trans (hb1.mono HBE.out.size)
    have hB3' := Blk.below HB3.out hb1 HB3.out.lt
    have hB2' := Blk.below HB2.out hb1 HB2.out.lt
    have f0 := Blk.cell (hB2') 0 (v := .int .i64 256) rfl
    have f1 := Blk.cell (hB2') 1 (v := .int .i64 (C' : Int)) rfl
    have f2 := Blk.cell (hB2') 2 (v := .int .i64 (K' : Int)) rfl
    have h0 := Blk.cell (hB3') 0 (v := .slice ga gn gc) rfl
    have h1 := Blk.cell (hB3') 1 (v := .slice pa pn pc) rfl
    have h2 := Blk.cell (hB3') 2 (v := .bool pad) rfl
    have kse := sent_any W1 C' K' la ga pa lc gn gc pn pc pad l g p (HT.out.1.be hb1) (HT.out.2.be hb1) HC.out.1 HC.out.2.1 HC.out.2.2 (HL.out.below (Nat.le_refl _) hb1) hl20 (HG.out.below (Nat.le_refl _) hb1) HN.out.2.2.1 (by omega) (HP.out.below (Nat.le_refl _) hb1) HN.out.2.2.2 (by omega)
    clear ks hb1 c0 c1 c2 d0 d1 d2
    go_wp2_with fail
    (with_reducible refine (kse).mono ?_); rintro e2 W2 ⟨⟨gf, gr, v, gt, g2, u, rfl, hFT⟩, hb2⟩
    have HSZ := Lib.hid hbW1.size
    have hbW2 := hbW1.trans (hb2.mono hbW1.size)
    have HV2 := Lib.hid (HV1.out.trans (hb2.mono HV1.out.size))
    have HSZV := Lib.hid HV1.out.size
    clear kse hb2 hB3' hB2' f0 f1 f2 h0 h1 h2 hbW1
    have HFS : Hid (OkL (frS C' K' l) ∧ (frS C' K' l).R = 256 ∧ (frS C' K' l).L.length ≤ 20 ∧ LayF (frS C' K' l)) := Lib.hid (by
      have q1 := frK_R 256 C' K' l l.length
      have q2 := frK_len 256 C' K' l l.length
      exact ⟨frK_ok (by decide) (by decide) HC.out.1 l _, q1.1, Nat.le_trans q2 hl20, lay_frK (by decide) (by decide) HC.out.1 l _⟩)
    have HFK := Lib.hid (frK_R 256 C' K' l l.length).2.2
    rw [show frK 256 C' K' l l.length = frS C' K' l from rfl] at HFK
    have HKN := Lib.hid (kn_sent C' K' l g p pad HC.out.1)
    have HTO := Lib.hid (ts_ok C' K' l g p pad hl20)
    obtain ⟨F, hF⟩ : ∃ F, frS C' K' l = F := ⟨_, rfl⟩
    obtain ⟨T, hT⟩ : ∃ T, tbS C' K' l g p pad = T := ⟨_, rfl⟩
    rw [hF, hT] at hFT HKN
    rw [hT] at HTO
    rw [hF] at HFS HFK
    have hpl := parS_L F (64 - K')
    have hpok := FrC.par_ok HFS.out.1.ok (64 - K')
    have HPK : Hid ((FrC.parS F (64 - K')).K = K' ∧ FrC.parL (FrC.parS F (64 - K')) (64 - K') = FrC.parL F (64 - K') ∧ padN (FrC.parS F (64 - K')) = padN F ∧ (FrC.parS F (64 - K')).R = 256 ∧ (FrC.parS F (64 - K')).used = F.used) := Lib.hid (by
      have h1 : (FrC.parS F (64 - K')).R = F.R ∧ (FrC.parS F (64 - K')).used = F.used := by
        unfold FrC.parS FrC.freshS
        split
        · exact ⟨rfl, rfl⟩
        · split <;> exact ⟨rfl, rfl⟩
      exact ⟨(FrC.par_K F _).trans HFK.out, by unfold FrC.parL; rw [FrC.par_fresh], by unfold padN; rw [h1.1, h1.2], h1.1.trans HFS.out.2.1, h1.2⟩)
    have HPLL : Hid ((FrC.parL F (64 - K')).length = 64 - K' ∧ ∀ s ∈ FrC.parL F (64 - K'), s.size = 256) := Lib.hid ⟨by simp [FrC.parL], fun s hs => by
      obtain ⟨i, _, rfl⟩ := List.mem_map.1 hs
      rw [str_size, FrC.colS, List.length_map, List.length_range, FrC.fresh_R, HFS.out.2.1]⟩
    obtain ⟨FP, hFP⟩ : ∃ FP, FrC.parS F (64 - K') = FP := ⟨_, rfl⟩
    rw [hFP] at hFT hpl hpok HPK
    have HPL := Lib.hid (And.intro hpl hpok)
    have HTR := Lib.hid (show T.R = 256 from HKN.out.R)
    have hBst : ∀ z, BF F g z → ∃ x ∈ F.L, z = x.1 := fun z ⟨j, x, _, _, hx, e⟩ => ⟨x, List.mem_of_getElem? hx, e⟩
    have HSE := Lib.hid (mended_sees HKN.out HTO.out hBst)
    have HRO : Hid (∀ r, r < T.R → RowOf T r (rowC F r)) := Lib.hid (fun r hr => HKN.out.row HFS.out.2.2.2 HFS.out.2.1 r hr)
    have HFT := Lib.hid hFT
    have kt := TbO.new_any 256 W2 (HT0.out.be hbW2)
    simp only [show isSz 256 = true from rfl, if_true] at kt
    have hB4 := Blk.below HB2.out HV2.out HB2.out.lt
    have f0 := Blk.cell (hB4) 0 (v := .int .i64 256) rfl
    have f1 := Blk.cell (hB4) 1 (v := .int .i64 (C' : Int)) rfl
    have f2 := Blk.cell (hB4) 2 (v := .int .i64 (K' : Int)) rfl
    clear hF hT hFP hpl hpok hBst hFT hbW2 hB4
    go_wp2_with fail
    (with_reducible refine (kt).mono ?_); rintro e3 W3 ⟨hb3, hf3⟩
    obtain ⟨R', gu, g3, eR, _, _, rfl, hU⟩ := hf3
    obtain rfl : R' = 256 := by omega
    have hbV3 := HV2.out.trans (hb3.mono HV2.out.size)
    have hB4 := Blk.below HB3.out hbV3 HB3.out.lt
    have HTwo3 : Hid (Two W3 W1.heap.size gf gr v FP gt g2 u T gu g3 (.slice none 0 0) (emptyT 256)) := Lib.hid (by
      have ft := HFT.out.below hb3
      have hs : W1.heap.size ≤ W2.heap.size := by have := (HFT.out.t.ge gt (Or.inl rfl)); omega
      refine ⟨ft, ⟨ft.f, ⟨hU.box, hU.rows, World.ownsRow_nil _ _ _ _, hU.ne, hU.nt, hU.nr, Nat.le_trans hs hU.bt, Nat.le_trans hs hU.br⟩, fun i hi ht => ?_⟩, fun i hi ht => ?_⟩
      · have h1 := (HFT.out.f.ge i hi).2
        have h2 := (hU.ge i ht).1
        omega
      · have h1 := (HFT.out.t.ge i hi).2
        have h2 := (hU.ge i ht).1
        omega)
    clear kt hb3 hU f0 f1 f2 eR
    cases pad with
    | false =>
      have h0 := Blk.cell (hB4) 0 (v := .slice ga gn gc) rfl
      have h1 := Blk.cell (hB4) 1 (v := .slice pa pn pc) rfl
      have h2 := Blk.cell (hB4) 2 (v := .bool false) rfl
      obtain ⟨Wp, rfl⟩ : ∃ Wp, Wp = W3 := ⟨_, rfl⟩
      have hbV := hbV3
      have HTwo : Hid (Two Wp W1.heap.size gf gr v FP gt g2 u T gu g3 (.slice none 0 0) (urS F false)) := HTwo3
      clear hbV3 HTwo3 hB4
      go_wp2_with fail
      clear h0 h1 h2
      have hft := HTwo.out.a.f
      have kpr := FrC.parity_any Wp W1.heap.size gf gr v FP hft HPL.out.2 (by rw [HPK.out.1]; exact HC.out.2.2)
      rw [HPK.out.1, HPK.out.2.1] at kpr
      obtain ⟨S1, hS1⟩ : ∃ S1, Wp.heap.size = S1 := ⟨_, rfl⟩
      have HW0 := Lib.hid (fun i (hi : foot gu g3 (.slice none 0 0) i) => (HTwo.out.b.t.ge i hi).2)
      have HF0 := Lib.hid (fun i (hi : foot gt g2 u i) => (HTwo.out.a.t.ge i hi).2)
      rw [hS1] at HW0 HF0 kpr
      clear hft
      go_wp2_with fail
      (with_reducible refine (kpr).mono ?_); rintro e6 W6 ⟨hf6, hk6, mv, rfl, hown6⟩
      obtain ⟨ma, mc, hmv⟩ := own_form hown6
      subst hmv
      have HTwo6 := Lib.hid (HTwo.out.frame hf6 (far_refl _ _) hk6)
      have hbV6 := hbV.trans (hk6.be hbV.size (fun i hi => Nat.le_trans HSZV.out (HTwo.out.a.f.ge i hi).1))
      obtain ⟨FQ, hFQ⟩ : ∃ FQ, FrC.parS FP (64 - K') = FQ := ⟨_, rfl⟩
      rw [hFQ] at HTwo6
      have HQL : Hid (FQ.L = F.L ∧ OkF FQ) := Lib.hid (by rw [← hFQ]; exact ⟨(parS_L FP _).trans HPL.out.1, FrC.par_ok HPL.out.2 _⟩)
      obtain ⟨n, hn⟩ : ∃ n, 64 - K' = n := ⟨_, rfl⟩
      rw [hn] at hown6 HPLL HKN ⊢
      have hn64 : n ≤ 64 := by omega
      have HTwo7 : Hid (Two W6 W1.heap.size gf gr v FQ gt g2 u T gu g3 (.slice none 0 0) (upS F n p false (n - n))) := by rw [Nat.sub_self]; exact HTwo6
      clear kpr hf6 hk6 HTwo hbV HTwo6 hFQ hn hS1
      go_wp2_with fail
      go_loopw [13] (fun iv W => ∃ j : Nat, j ≤ n ∧ iv = .int .i64 ((j : Int) - 1) ∧ Hid (Two W W1.heap.size gf gr v FQ gt g2 u T gu g3 (.slice none 0 0) (upS F n p false (n - j))) ∧ W.ownsRow S1 9 1 (.slice ma n mc) n (flat enS (FrC.parL F n)) ∧ Below V.heap.size V W) (fun iv _ => (intOf iv + 1).toNat)
      case atStart => exact ⟨n, Nat.le_refl _, rfl, HTwo7, hown6, hbV6⟩
      case round =>
        clear HTwo7 hown6 hbV6
        obtain ⟨j, hj, rfl, HTwo, hown, hbV⟩ := hrel
        cases j with
        | succ q =>
          rw [show ((q + 1 : Nat) : Int) - 1 = (q : Int) by omega]
          have q0 : (0 : Int) ≤ (q : Int) := Int.natCast_nonneg _
          have q1 : (q : Int) < (n : Int) := by omega
          have t2 : decide ((0 : Int) ≤ (q : Int)) = true := decide_eq_true q0
          obtain ⟨x, hx⟩ : ∃ x, (FrC.parL F n)[q]? = some x := ⟨_, List.getElem?_eq_getElem (by rw [HPLL.out.1]; omega)⟩
          obtain ⟨b, o, rfl, hlt, hc⟩ := (own_seq enS_len hown HPLL.out.1) q x hx
          have HS := Lib.hid (up_step F n p false q (by omega))
          rw [show (FrC.parL F n).getD q nob = x by rw [List.getD_eq_getElem?_getD, hx]; rfl] at HS
          have HX := Lib.hid (HPLL.out.2 x (List.mem_of_getElem? hx))
          have e0 : wr.cell? ⟨b, o + q, none⟩ = some (.string x) := hc 0 (.string x) rfl
          have hB5 := Blk.below HB3.out hbV HB3.out.lt
          have f0 := Blk.cell hB5 1 (v := .slice pa pn pc) rfl
          have kin := in_any wr pa pc p (q : Int) pn HN.out.2.2.2 (by omega) (HP.out.below (Nat.le_refl _) hbV)
          obtain ⟨y, hy⟩ : ∃ y, decide ((q : Int) ∈ p) = y := ⟨_, rfl⟩
          have HY := Lib.hid hy
          rw [hy] at kin
          clear hx hlt hc hB5 hy
          cases y with
          | true =>
            have HS1 := Lib.hid (show upS F n p false (n - q) = upS F n p false (n - (q + 1)) by rw [HS.out, if_pos (of_decide_eq_true HY.out)])
            have HT9 : Hid (Two wr W1.heap.size gf gr v FQ gt g2 u T gu g3 (.slice none 0 0) (upS F n p false (n - q))) := Lib.hid (by rw [HS1.out]; exact HTwo.out)
            clear HTwo
            go_wp2_with fail
            (with_reducible refine (kin).mono ?_); rintro e4 W4 ⟨rfl, rfl⟩
            clear kin e0 f0
            go_wp2_with fail
            go_roundw
            case rel => exact ⟨q, by omega, rfl, HT9, hown, hbV⟩
            case measure => simp [intOf] <;> omega
          | false =>
            have HS1 := Lib.hid (show upS F n p false (n - q) = TbR.parS (upS F n p false (n - (q + 1))) (q : Int) x by rw [HS.out, if_neg (of_decide_eq_false HY.out)])
            have hTok := up_ok F n p false (n - (q + 1))
            have kpt := TbR.parity_any wr W1.heap.size gu g3 (.slice none 0 0) (upS F n p false (n - (q + 1))) (q : Int) x HTwo.out.b.t hTok.1
            rw [hTok.2.2, ← HS1.out] at kpt
            have hpe : TbR.parE 256 (q : Int) x = 0 := by
              unfold TbR.parE
              rw [if_neg (by omega), if_neg (by rw [HX.out]; simp)]
            rw [hpe] at kpt
            clear hTok hpe
            go_wp2_with fail
            (with_reducible refine (kin).mono ?_); rintro e4 W4 ⟨rfl, rfl⟩
            clear kin
            go_wp2_with fail
            (with_reducible refine (kpt).mono ?_); rintro e4 W4 ⟨rfl, ht4, hk4⟩
            have HT4 := Lib.hid (HTwo.out.right ht4 (far_refl _ _) hk4)
            have HO4 := Lib.hid (own_kept hown hk4 (fun i hi hf => by
              have h1 := (hown.lt i hi).1
              have h2 := HW0.out i hf
              omega))
            have hbV4 := hbV.trans (hk4.be hbV.size (fun i hi => Nat.le_trans HSZV.out (HTwo.out.b.t.ge i hi).1))
            clear kpt ht4 hk4 hown hbV HTwo e0 f0
            go_wp2_with fail
            go_roundw
            case rel => exact ⟨q, by omega, rfl, HT4, HO4.out, hbV4⟩
            case measure => simp [intOf] <;> omega
        | zero =>
          have HTwo8 : Hid (Two wr W1.heap.size gf gr v FQ gt g2 u T gu g3 (.slice none 0 0) (upS F n p false n)) := HTwo
          have kp := FrB.placed_any wr W1.heap.size gf gr v FQ HTwo.out.a.f HQL.out.2
          rw [HQL.out.1] at kp
          clear hown HTwo hj
          go_wp2_with fail
          (with_reducible refine (kp).mono ?_); rintro e3 W3 ⟨hb3, pv, rfl, hown3⟩
          obtain ⟨pa', pc', hpv⟩ := own_form hown3
          subst hpv
          have HTwo9 := Lib.hid (HTwo8.out.below hb3)
          have hbV3 := hbV.trans (hb3.mono hbV.size)
          obtain ⟨S0, hS0⟩ : ∃ S0, wr.heap.size = S0 := ⟨_, rfl⟩
          have hap : ∀ i, (Value.slice pa' F.L.length pc').ownBlock = some i → ¬ foot gu g3 (.slice none 0 0) i := fun i hi hf => by
            have h1 := (hown3.lt i hi).1
            have h2 := (HTwo8.out.b.t.ge i hf).2
            omega
          rw [hS0] at hown3
          have HUG := Lib.hid (ug_step F n g p false)
          have HUO := Lib.hid (ug_ok F n g p false)
          have HOR := Lib.hid (order HFS.out.2.2.2 HFS.out.2.1 HFS.out.1 HFS.out.2.2.1 n hn64 g p false HKN.out HTO.out)
          have HTwo10 : Hid (∃ x, Two W3 W1.heap.size gf gr v FQ gt g2 u T gu g3 x (ugS F n g p false (F.L.length - F.L.length)) ∧ (∀ i, (Value.slice pa' F.L.length pc').ownBlock = some i → ¬ foot gu g3 x i)) := Lib.hid ⟨_, by rw [Nat.sub_self]; exact HTwo9.out, hap⟩
          obtain ⟨m, hm⟩ : ∃ m, F.L.length = m := ⟨_, rfl⟩
          have HM := Lib.hid hm
          rw [hm] at hown3 HUG HOR HTwo10 ⊢
          have hm20 : m ≤ 20 := by have := HFS.out.2.2.1; omega
          clear kp hb3 hbV hm HTwo8 HTwo9 hap hS0
          go_wp2_with fail
          go_loopw [15] (fun iv W => ∃ j : Nat, j ≤ m ∧ iv = .int .i64 ((j : Int) - 1) ∧ Hid (∃ x, Two W W1.heap.size gf gr v FQ gt g2 u T gu g3 x (ugS F n g p false (m - j)) ∧ (∀ i, (Value.slice pa' m pc').ownBlock = some i → ¬ foot gu g3 x i)) ∧ W.ownsRow S0 43 2 (.slice pa' m pc') m (flat enPd F.L) ∧ Below V.heap.size V W) (fun iv _ => (intOf iv + 1).toNat)
          case atStart => exact ⟨m, Nat.le_refl _, rfl, HTwo10, hown3, hbV3⟩
          case round =>
            clear HTwo10 hown3 hbV3
            obtain ⟨j, hj, rfl, HTwo, hown, hbV⟩ := hrel
            cases j with
            | succ q =>
              rw [show ((q + 1 : Nat) : Int) - 1 = (q : Int) by omega]
              have q0 : (0 : Int) ≤ (q : Int) := Int.natCast_nonneg _
              have q1 : (q : Int) < (m : Int) := by omega
              have t2 : decide ((0 : Int) ≤ (q : Int)) = true := decide_eq_true q0
              obtain ⟨x, hx⟩ : ∃ x, F.L[q]? = some x := ⟨_, List.getElem?_eq_getElem (by rw [HM.out]; omega)⟩
              obtain ⟨b, o, rfl, hlt, hc⟩ := (own_seq enPd_len hown HM.out) q x hx
              rw [off_eq] at hc
              have HS := Lib.hid (HUG.out q (by omega))
              rw [show F.L.getD q (0, nob) = x by rw [List.getD_eq_getElem?_getD, hx]; rfl] at HS
              have HX := Lib.hid (chain_in HFS.out.1.ch x (List.mem_of_getElem? hx))
              have e0 := fun pX => cell_ext (w := wr) (a := ⟨b, o + q * 2, none⟩) (p := pX) hlt (hc 0 (.int .i64 (x.1 : Int)) rfl)
              have e1 := fun pX => cell_ext (w := wr) (p := pX) hlt (hc 1 (.string x.2) rfl)
              have hB5 := Blk.below HB3.out hbV HB3.out.lt
              have f0 := fun pX => Blk.cell (blk_ext hB5 pX) 0 (v := .slice ga gn gc) rfl
              have kin := fun pX => in_any (ext wr pX) ga gc g (q : Int) gn HN.out.2.2.1 (by omega) ((HG.out.below (Nat.le_refl _) hbV).below (Nat.le_refl _) (below_ext wr pX))
              obtain ⟨y, hy⟩ : ∃ y, decide ((q : Int) ∈ g) = y := ⟨_, rfl⟩
              have HY := Lib.hid hy
              rw [hy] at kin
              clear hx hlt hc hB5 hy
              cases y with
              | true =>
                have HS1 := Lib.hid (show ugS F n g p false (m - q) = ugS F n g p false (m - (q + 1)) by rw [HS.out, if_pos (of_decide_eq_true HY.out)])
                go_wp2_with fail
                refine Go.Proofs.YtlocgilgdnhnlaaGreatDoor.Q.region_ext_tail 17 (by kernel_rfl) (by kernel_rfl) ?_
                simp only [List.take_succ_cons, List.take_zero, List.drop_succ_cons, List.drop_zero]
                repeat (go_big_quiet_step ((go_at_call 16; refine ext_call_same (kin _))))
                refine wpQuiet_nil ?_
                rintro w9 ⟨pq, rfl⟩
                obtain ⟨x', hft, hap⟩ := HTwo.out
                have HF9 := Lib.hid (show ∃ x', Two (ext wr pq) W1.heap.size gf gr v FQ gt g2 u T gu g3 x' (ugS F n g p false (m - q)) ∧ (∀ i, (Value.slice (some ⟨b, o, none⟩) m pc').ownBlock = some i → ¬ foot gu g3 x' i) from ⟨x', by rw [HS1.out]; exact hft.below (below_ext wr pq), hap⟩)
                have HO9 := Lib.hid (own_below hown (below_ext wr pq))
                have hbV9 := hbV.trans ((below_ext wr pq).mono hbV.size)
                clear e0 e1 f0 kin HTwo hft hap hown hbV
                go_wp2_with fail
                go_roundw
                case rel => exact ⟨q, by omega, rfl, HF9, HO9.out, hbV9⟩
                case measure => simp [intOf] <;> omega
              | false =>
                have HS1 := Lib.hid (show ugS F n g p false (m - q) = putS (ugS F n g p false (m - (q + 1))) (x.1 : Int) x.2 by rw [HS.out, if_neg (of_decide_eq_false HY.out)])
                go_wp2_with fail
                refine Go.Proofs.YtlocgilgdnhnlaaGreatDoor.Q.region_ext_tail 17 (by kernel_rfl) (by kernel_rfl) ?_
                simp only [List.take_succ_cons, List.take_zero, List.drop_succ_cons, List.drop_zero]
                repeat (go_big_quiet_step ((go_at_call 16; refine ext_call_same (kin _))))
                refine wpQuiet_nil ?_
                rintro w9 ⟨pq, rfl⟩
                obtain ⟨x', hft, hap⟩ := HTwo.out
                have hft9 := hft.below (below_ext wr pq)
                have hO9 := own_below hown (below_ext wr pq)
                have hbV9 := hbV.trans ((below_ext wr pq).mono hbV.size)
                have hTok := HUO.out (m - (q + 1)) (by omega)
                have hdz := HX.out.2.2
                have kpt := put_any (ext wr pq) W1.heap.size gu g3 x' (ugS F n g p false (m - (q + 1))) (x.1 : Int) x.2 hft9.b.t hTok.1 (by have := dg_size hdz; omega)
                rw [hTok.2.2, ← HS1.out] at kpt
                have hpe : putE 256 (x.1 : Int) x.2 = 0 := by
                  unfold putE
                  have h1 := HX.out.2.1
                  have h2 := HFS.out.1.ok.u
                  have h3 := HFS.out.2.1
                  have h4 := HFS.out.1.ok.C
                  have h5 : F.R * F.C ≤ 256 * 191 := by rw [h3]; exact Nat.mul_le_mul_left _ h4
                  rw [if_neg]
                  omega
                rw [hpe] at kpt
                have HFT9 := Lib.hid (And.intro hft9 (And.intro hap (And.intro hO9 hbV9)))
                clear e0 e1 f0 kin HTwo hft hap hown hbV hft9 hO9 hbV9 hTok hdz hpe
                go_wp2_with fail
                (with_reducible refine (kpt).mono ?_); rintro e4 W4 ⟨u', rfl, ht4, hfar4, hk4⟩
                obtain ⟨hft9, hap, hO9, hbV9⟩ := HFT9.out
                have hFT4 := hft9.right ht4 hfar4 hk4
                have hap4 : ∀ i, (Value.slice (some ⟨b, o, none⟩) m pc').ownBlock = some i → ¬ foot gu g3 u' i := fun i hi hf => by
                  rcases hf with e | e | e
                  · exact hap i hi (Or.inl e)
                  · exact hap i hi (Or.inr (Or.inl e))
                  · rcases hfar4 with h1 | ⟨j, h1, h2⟩
                    · exact hap i hi (Or.inr (Or.inr (h1 ▸ e)))
                    · rw [h1] at e
                      injection e with e
                      have := (hO9.lt i hi).2
                      omega
                have HO4 := Lib.hid (own_kept hO9 hk4 hap)
                have hbV4 := hbV9.trans (hk4.be hbV9.size (fun i hi => Nat.le_trans HSZV.out (hft9.b.t.ge i hi).1))
                have HF4 := Lib.hid (show ∃ x', Two W4 W1.heap.size gf gr v FQ gt g2 u T gu g3 x' (ugS F n g p false (m - q)) ∧ (∀ i, (Value.slice (some ⟨b, o, none⟩) m pc').ownBlock = some i → ¬ foot gu g3 x' i) from ⟨u', hFT4, hap4⟩)
                clear kpt ht4 hfar4 hk4 hft9 hap hO9 hbV9 hFT4 hap4 HFT9
                go_wp2_with fail
                go_roundw
                case rel => exact ⟨q, by omega, rfl, HF4, HO4.out, hbV4⟩
                case measure => simp [intOf] <;> omega
            | zero =>
              obtain ⟨x, htw, _⟩ := HTwo.out
              obtain ⟨Wq, rfl⟩ : ∃ Wq : World, Wq = wr := ⟨_, rfl⟩
              rw [Nat.sub_zero, HOR.out] at htw
              have HTW := Lib.hid htw
              have HBV := Lib.hid hbV
              clear HTwo htw hown hbV hj
              go_wp2_with fail
              go_loopw [16] (fun iv W => ∃ i : Nat, i ≤ 256 ∧ iv = .int .i64 i ∧ Below Wq.heap.size Wq W) (fun iv _ => 256 - (intOf iv).toNat)
              case atStart => exact ⟨0, by omega, rfl, Below.refl _ _⟩
              case round =>
                obtain ⟨i, hi, rfl, hbe⟩ := hrel
                have i0 : (0 : Int) ≤ (i : Int) := Int.natCast_nonneg _
                have hbV := HBV.out.trans (hbe.mono HBV.out.size)
                have hB6 := Blk.below HB2.out hbV HB2.out.lt
                have e0 := Blk.cell hB6 0 (v := .int .i64 256) rfl
                have HT1 := Lib.hid (HTW.out.below hbe)
                by_cases hin : i < 256
                · have t0 : decide ((i : Int) < 256) = true := decide_eq_true (by omega)
                  have kl1 := TbQ.Lost_any wr W1.heap.size gt g2 (i : Int) u T HT1.out.a.t
                  have kl2 := fun V3 (hb : Below wr.heap.size wr V3) => TbQ.Lost_any V3 W1.heap.size gu g3 (i : Int) x T (HT1.out.b.t.below hb)
                  rw [if_pos ⟨by omega, by rw [HTR.out]; omega⟩, if_pos ⟨by omega, by rw [HTR.out]; omega⟩, Int.toNat_natCast] at kl1 kl2
                  obtain ⟨z, hz⟩ : ∃ z, (lostL T i).length = z := ⟨_, rfl⟩
                  rw [hz] at kl1 kl2
                  clear hz hB6 hbV
                  go_wp2_with fail
                  (with_reducible refine (kl1).mono ?_); rintro e3 W5 ⟨hb5, rfl⟩
                  have kl3 := kl2 W5 hb5
                  clear kl1 kl2 e0
                  go_wp2_with fail
                  (with_reducible refine (kl3).mono ?_); rintro e3 W6 ⟨hb6, rfl⟩
                  have hbe6 := hbe.trans ((hb5.trans (hb6.mono hb5.size)).mono hbe.size)
                  clear kl3 hb5 hb6 hbe HT1
                  go_wp2_with fail
                  refine ⟨?_, ?measure⟩
                  · repeat apply Exists.intro
                    refine ⟨?_, rfl⟩
                    exact ⟨i + 1, by omega, by go_num, hbe6⟩
                  case measure => simp [intOf]; omega
                · obtain rfl : i = 256 := by omega
                  have t0 : decide (((256 : Nat) : Int) < 256) = false := by decide
                  have km1 := TbW.mend_any wr W1.heap.size gt g2 u T (rowC F) HT1.out.a.t (by rw [HTR.out]; decide) HRO.out
                  have km2 := fun V3 (tw : TbIn V3 W1.heap.size gu g3 x T) => TbW.mend_any V3 W1.heap.size gu g3 x T (rowC F) tw (by rw [HTR.out]; decide) HRO.out
                  rw [HTR.out] at km1 km2
                  obtain ⟨M, hsub, hout, _, _⟩ := sees_out HFS.out.2.2.2 HFS.out.2.1 HFS.out.1 HSE.out
                  have hd20 : (outAt (mdS T (rowC F) 256) 0).length ≤ 20 := by
                    rw [hout, List.length_map]
                    have := hsub.length_le
                    have := HFS.out.2.2.1
                    omega
                  have HSok := Lib.hid HSE.out.ok
                  obtain ⟨S, hS⟩ : ∃ S, mdS T (rowC F) 256 = S := ⟨_, rfl⟩
                  rw [hS] at km1 km2 hd20 HSok
                  have hm1 : (cntM T 256 : Int) ≤ 1024 := by have := cntM_le T 256; omega
                  have hf1 : (cntF T 256 : Int) ≤ 1024 := by have := cntF_le T 256; omega
                  obtain ⟨m1, hm⟩ : ∃ m, cntM T 256 = m := ⟨_, rfl⟩
                  obtain ⟨f, hf⟩ : ∃ f, cntF T 256 = f := ⟨_, rfl⟩
                  rw [hm] at km1 km2 hm1
                  rw [hf] at km1 km2 hf1
                  clear hm hf hS hsub hout hB6 hbe
                  go_wp2_with fail
                  (with_reducible refine (km1).mono ?_); rintro e3 W5 ⟨rfl, ht5, hk5⟩
                  have HT2 := Lib.hid (HT1.out.left ht5 (hk5.mono (fun i _ e => Or.inr (Or.inl e))))
                  have hbV5 := hbV.trans (hk5.be hbV.size (fun i e => by subst e; exact Nat.le_trans HSZV.out HT1.out.a.t.br))
                  have km3 := km2 W5 HT2.out.b.t
                  clear km1 km2 ht5 hk5 hbV HT1 e0
                  go_wp2_with fail
                  (with_reducible refine (km3).mono ?_); rintro e3 W6 ⟨rfl, ht6, hk6⟩
                  have HT3 := Lib.hid (HT2.out.right ht6 (far_refl _ _) (hk6.mono (fun i _ e => Or.inr (Or.inl e))))
                  have hbV6 := hbV5.trans (hk6.be hbV5.size (fun i e => by subst e; exact Nat.le_trans HSZV.out HT2.out.b.t.br))
                  have ko1 := out_any W6 W1.heap.size gt g2 u S HT3.out.a.t HSok.out
                  clear km3 ht6 hk6 hbV5 HT2
                  go_wp2_with fail
                  (with_reducible refine (ko1).mono ?_); rintro e3 W7 ⟨hb7, ov1, rfl, hown7⟩
                  obtain ⟨oa1, oc1, hov⟩ := own_form hown7
                  subst hov
                  have HT4 := Lib.hid (HT3.out.below hb7)
                  have hbV7 := hbV6.trans (hb7.mono hbV6.size)
                  have ko2 := out_any W7 W1.heap.size gu g3 x S HT4.out.b.t HSok.out
                  clear ko1 hb7 hbV6 HT3
                  go_wp2_with fail
                  (with_reducible refine (ko2).mono ?_); rintro e3 W8 ⟨hb8, ov2, rfl, hown8⟩
                  obtain ⟨oa2, oc2, hov⟩ := own_form hown8
                  subst hov
                  have hbV8 := hbV7.trans (hb8.mono hbV7.size)
                  have HBW := Lib.hid (HBE.out.trans (hbV8.mono HBE.out.size))
                  have HS1 := Lib.hid (own_seq (en := enPl S) (sz := 2) (fun _ => rfl) (own_below hown7 hb8) rfl)
                  have HS2 := Lib.hid (own_seq (en := enPl S) (sz := 2) (fun _ => rfl) hown8 rfl)
                  obtain ⟨O, hO⟩ : ∃ O, outAt S 0 = O := ⟨_, rfl⟩
                  rw [hO] at HS1 HS2 hd20 ⊢
                  obtain ⟨d, hd⟩ : ∃ d, O.length = d := ⟨_, rfl⟩
                  have HD := Lib.hid hd
                  rw [hd] at hd20 ⊢
                  clear ko2 hb8 hown7 hown8 hbV7 hbV8 HT4 hO hd
                  go_wp2_with fail
                  go_loopw [27] (fun kv W => ∃ k : Nat, k ≤ d ∧ kv = .int .i64 k ∧ Below W8.heap.size W8 W) (fun kv _ => d - (intOf kv).toNat)
                  case atStart => exact ⟨0, by omega, rfl, Below.refl _ _⟩
                  case round =>
                    obtain ⟨k, hk, rfl, hbe⟩ := hrel
                    have k0 : (0 : Int) ≤ (k : Int) := Int.natCast_nonneg _
                    by_cases hkn : k < d
                    · have t3 : decide ((k : Int) < (d : Int)) = true := decide_eq_true (by omega)
                      have t3' : decide (k < d) = true := decide_eq_true hkn
                      have k1 : (k : Int) < (d : Int) := by omega
                      have k20 : (k : Int) ≤ 20 := by omega
                      obtain ⟨y, hy⟩ : ∃ y, O[k]? = some y := ⟨_, List.getElem?_eq_getElem (by rw [HD.out]; exact hkn)⟩
                      obtain ⟨b1, o1, rfl, hlt1, hc1⟩ := HS1.out k y hy
                      obtain ⟨b2, o2, rfl, hlt2, hc2⟩ := HS2.out k y hy
                      rw [off_eq] at hc1 hc2
                      have a1 := hc1 0 (.int .i64 (y.1 : Int)) rfl
                      have a2 := hc1 1 (.string (str (bytesL S y.1 y.2))) rfl
                      have c1 := hc2 0 (.int .i64 (y.1 : Int)) rfl
                      have c2 := hc2 1 (.string (str (bytesL S y.1 y.2))) rfl
                      have q1 := fun pX => (World.cell?_of_block (a := ⟨b1, o1 + k * 2, none⟩) ((hbe.trans ((below_ext wr pX).mono hbe.size)).block b1 hlt1)).trans a1
                      have q2 := fun pX => (World.cell?_of_block (a := ⟨b1, o1 + k * 2 + 1, none⟩) ((hbe.trans ((below_ext wr pX).mono hbe.size)).block b1 hlt1)).trans a2
                      have q3 := fun pX => (World.cell?_of_block (a := ⟨b2, o2 + k * 2, none⟩) ((hbe.trans ((below_ext wr pX).mono hbe.size)).block b2 hlt2)).trans c1
                      have q4 := fun pX => (World.cell?_of_block (a := ⟨b2, o2 + k * 2 + 1, none⟩) ((hbe.trans ((below_ext wr pX).mono hbe.size)).block b2 hlt2)).trans c2
                      obtain ⟨s1, hs1⟩ : ∃ s1, str (bytesL S y.1 y.2) = s1 := ⟨_, rfl⟩
                      rw [hs1] at q2 q4
                      have eqp := fun V => eqPl (y.1 : Int) s1 V
                      clear hy hlt1 hlt2 hc1 hc2 a1 a2 c1 c2 hs1
                      go_wp2_with fail
                      refine Go.Proofs.YtlocgilgdnhnlaaGreatDoor.Q.region_ext (by kernel_rfl) (by kernel_rfl) ?_
                      repeat (go_big_quiet_step (fail))
                      refine wpQuiet_nil ?_
                      rintro w9 ⟨pq, rfl⟩
                      have hbe9 := hbe.trans ((below_ext wr pq).mono hbe.size)
                      clear q1 q2 q3 q4 hbe eqp
                      go_wp2_with fail
                      go_roundw
                      case rel => exact ⟨k + 1, by omega, by go_num, hbe9⟩
                      case measure => simp [intOf]; omega
                    · obtain rfl : k = d := by omega
                      have t3 : decide ((k : Int) < (k : Int)) = false := decide_eq_false (by omega)
                      have t3' : decide (k < k) = false := decide_eq_false (by omega)
                      have hbw := HBW.out.trans (hbe.mono HBW.out.size)
                      have ka := LaE.awake_any wr (HT0.out.be hbw)
                      clear hbe
                      go_wp2_with fail
                      (with_reducible refine (ka).mono ?_); rintro e9 W9 ⟨rfl, hb9⟩
                      have hbw9 := hbw.trans (hb9.mono hbw.size)
                      clear ka hb9
                      go_wp2_with fail
                      rw [HR.out]
                      exact ⟨rfl, hbw9⟩
    | true =>
      have h0 := Blk.cell (hB4) 0 (v := .slice ga gn gc) rfl
      have h1 := Blk.cell (hB4) 1 (v := .slice pa pn pc) rfl
      have h2 := Blk.cell (hB4) 2 (v := .bool true) rfl
      have kpd := padding_any W3 W1.heap.size gf gr v FP HTwo3.out.a.f (by rw [HPK.out.2.2.2.1]; decide) (by
        rw [HPK.out.2.2.2.1, HPK.out.2.2.2.2]
        have h1 := HFS.out.1.ok.u
        have h2 := HFS.out.2.1
        have h3 := HFS.out.1.ok.C
        have h4 : F.R * F.C ≤ 256 * 191 := by rw [h2]; exact Nat.mul_le_mul_left _ h3
        omega)
      rw [HPK.out.2.2.1] at kpd
      clear hB4
      go_wp2_with fail
      (with_reducible refine (kpd).mono ?_); rintro e4 W4 ⟨rfl, hb4⟩
      have HTwo4 := Lib.hid (HTwo3.out.below hb4)
      have hbV4 := hbV3.trans (hb4.mono hbV3.size)
      have kpt := TbR.pad_any W4 W1.heap.size gu g3 (.slice none 0 0) (emptyT 256) (padN F : Nat) HTwo4.out.b.t (LaB.empty_ok (by decide) (by decide))
      clear kpd hb4 hbV3 HTwo3 h0 h1 h2
      go_wp2_with fail
      (with_reducible refine (kpt).mono ?_); rintro e5 Wp ⟨rfl, ht5, hk5⟩
      have HTwo : Hid (Two Wp W1.heap.size gf gr v FP gt g2 u T gu g3 (.slice none 0 0) (urS F true)) := Lib.hid (HTwo4.out.right ht5 (far_refl _ _) hk5)
      have hbV := hbV4.trans (hk5.be hbV4.size (fun i hi => Nat.le_trans HSZV.out (HTwo4.out.b.t.ge i hi).1))
      clear kpt ht5 hk5 hbV4 HTwo4
      go_wp2_with fail
      have hft := HTwo.out.a.f
      have kpr := FrC.parity_any Wp W1.heap.size gf gr v FP hft HPL.out.2 (by rw [HPK.out.1]; exact HC.out.2.2)
      rw [HPK.out.1, HPK.out.2.1] at kpr
      obtain ⟨S1, hS1⟩ : ∃ S1, Wp.heap.size = S1 := ⟨_, rfl⟩
      have HW0 := Lib.hid (fun i (hi : foot gu g3 (.slice none 0 0) i) => (HTwo.out.b.t.ge i hi).2)
      have HF0 := Lib.hid (fun i (hi : foot gt g2 u i) => (HTwo.out.a.t.ge i hi).2)
      rw [hS1] at HW0 HF0 kpr
      clear hft
      go_wp2_with fail
      (with_reducible refine (kpr).mono ?_); rintro e6 W6 ⟨hf6, hk6, mv, rfl, hown6⟩
      obtain ⟨ma, mc, hmv⟩ := own_form hown6
      subst hmv
      have HTwo6 := Lib.hid (HTwo.out.frame hf6 (far_refl _ _) hk6)
      have hbV6 := hbV.trans (hk6.be hbV.size (fun i hi => Nat.le_trans HSZV.out (HTwo.out.a.f.ge i hi).1))
      obtain ⟨FQ, hFQ⟩ : ∃ FQ, FrC.parS FP (64 - K') = FQ := ⟨_, rfl⟩
      rw [hFQ] at HTwo6
      have HQL : Hid (FQ.L = F.L ∧ OkF FQ) := Lib.hid (by rw [← hFQ]; exact ⟨(parS_L FP _).trans HPL.out.1, FrC.par_ok HPL.out.2 _⟩)
      obtain ⟨n, hn⟩ : ∃ n, 64 - K' = n := ⟨_, rfl⟩
      rw [hn] at hown6 HPLL HKN ⊢
      have hn64 : n ≤ 64 := by omega
      have HTwo7 : Hid (Two W6 W1.heap.size gf gr v FQ gt g2 u T gu g3 (.slice none 0 0) (upS F n p true (n - n))) := by rw [Nat.sub_self]; exact HTwo6
      clear kpr hf6 hk6 HTwo hbV HTwo6 hFQ hn hS1
      go_wp2_with fail
      go_loopw [13] (fun iv W => ∃ j : Nat, j ≤ n ∧ iv = .int .i64 ((j : Int) - 1) ∧ Hid (Two W W1.heap.size gf gr v FQ gt g2 u T gu g3 (.slice none 0 0) (upS F n p true (n - j))) ∧ W.ownsRow S1 9 1 (.slice ma n mc) n (flat enS (FrC.parL F n)) ∧ Below V.heap.size V W) (fun iv _ => (intOf iv + 1).toNat)
      case atStart => exact ⟨n, Nat.le_refl _, rfl, HTwo7, hown6, hbV6⟩
      case round =>
        clear HTwo7 hown6 hbV6
        obtain ⟨j, hj, rfl, HTwo, hown, hbV⟩ := hrel
        cases j with
        | succ q =>
          rw [show ((q + 1 : Nat) : Int) - 1 = (q : Int) by omega]
          have q0 : (0 : Int) ≤ (q : Int) := Int.natCast_nonneg _
          have q1 : (q : Int) < (n : Int) := by omega
          have t2 : decide ((0 : Int) ≤ (q : Int)) = true := decide_eq_true q0
          obtain ⟨x, hx⟩ : ∃ x, (FrC.parL F n)[q]? = some x := ⟨_, List.getElem?_eq_getElem (by rw [HPLL.out.1]; omega)⟩
          obtain ⟨b, o, rfl, hlt, hc⟩ := (own_seq enS_len hown HPLL.out.1) q x hx
          have HS := Lib.hid (up_step F n p true q (by omega))
          rw [show (FrC.parL F n).getD q nob = x by rw [List.getD_eq_getElem?_getD, hx]; rfl] at HS
          have HX := Lib.hid (HPLL.out.2 x (List.mem_of_getElem? hx))
          have e0 : wr.cell? ⟨b, o + q, none⟩ = some (.string x) := hc 0 (.string x) rfl
          have hB5 := Blk.below HB3.out hbV HB3.out.lt
          have f0 := Blk.cell hB5 1 (v := .slice pa pn pc) rfl
          have kin := in_any wr pa pc p (q : Int) pn HN.out.2.2.2 (by omega) (HP.out.below (Nat.le_refl _) hbV)
          obtain ⟨y, hy⟩ : ∃ y, decide ((q : Int) ∈ p) = y := ⟨_, rfl⟩
          have HY := Lib.hid hy
          rw [hy] at kin
          clear hx hlt hc hB5 hy
          cases y with
          | true =>
            have HS1 := Lib.hid (show upS F n p true (n - q) = upS F n p true (n - (q + 1)) by rw [HS.out, if_pos (of_decide_eq_true HY.out)])
            have HT9 : Hid (Two wr W1.heap.size gf gr v FQ gt g2 u T gu g3 (.slice none 0 0) (upS F n p true (n - q))) := Lib.hid (by rw [HS1.out]; exact HTwo.out)
            clear HTwo
            go_wp2_with fail
            (with_reducible refine (kin).mono ?_); rintro e4 W4 ⟨rfl, rfl⟩
            clear kin e0 f0
            go_wp2_with fail
            go_roundw
            case rel => exact ⟨q, by omega, rfl, HT9, hown, hbV⟩
            case measure => simp [intOf] <;> omega
          | false =>
            have HS1 := Lib.hid (show upS F n p true (n - q) = TbR.parS (upS F n p true (n - (q + 1))) (q : Int) x by rw [HS.out, if_neg (of_decide_eq_false HY.out)])
            have hTok := up_ok F n p true (n - (q + 1))
            have kpt := TbR.parity_any wr W1.heap.size gu g3 (.slice none 0 0) (upS F n p true (n - (q + 1))) (q : Int) x HTwo.out.b.t hTok.1
            rw [hTok.2.2, ← HS1.out] at kpt
            have hpe : TbR.parE 256 (q : Int) x = 0 := by
              unfold TbR.parE
              rw [if_neg (by omega), if_neg (by rw [HX.out]; simp)]
            rw [hpe] at kpt
            clear hTok hpe
            go_wp2_with fail
            (with_reducible refine (kin).mono ?_); rintro e4 W4 ⟨rfl, rfl⟩
            clear kin
            go_wp2_with fail
            (with_reducible refine (kpt).mono ?_); rintro e4 W4 ⟨rfl, ht4, hk4⟩
            have HT4 := Lib.hid (HTwo.out.right ht4 (far_refl _ _) hk4)
            have HO4 := Lib.hid (own_kept hown hk4 (fun i hi hf => by
              have h1 := (hown.lt i hi).1
              have h2 := HW0.out i hf
              omega))
            have hbV4 := hbV.trans (hk4.be hbV.size (fun i hi => Nat.le_trans HSZV.out (HTwo.out.b.t.ge i hi).1))
            clear kpt ht4 hk4 hown hbV HTwo e0 f0
            go_wp2_with fail
            go_roundw
            case rel => exact ⟨q, by omega, rfl, HT4, HO4.out, hbV4⟩
            case measure => simp [intOf] <;> omega
        | zero =>
          have HTwo8 : Hid (Two wr W1.heap.size gf gr v FQ gt g2 u T gu g3 (.slice none 0 0) (upS F n p true n)) := HTwo
          have kp := FrB.placed_any wr W1.heap.size gf gr v FQ HTwo.out.a.f HQL.out.2
          rw [HQL.out.1] at kp
          clear hown HTwo hj
          go_wp2_with fail
          (with_reducible refine (kp).mono ?_); rintro e3 W3 ⟨hb3, pv, rfl, hown3⟩
          obtain ⟨pa', pc', hpv⟩ := own_form hown3
          subst hpv
          have HTwo9 := Lib.hid (HTwo8.out.below hb3)
          have hbV3 := hbV.trans (hb3.mono hbV.size)
          obtain ⟨S0, hS0⟩ : ∃ S0, wr.heap.size = S0 := ⟨_, rfl⟩
          have hap : ∀ i, (Value.slice pa' F.L.length pc').ownBlock = some i → ¬ foot gu g3 (.slice none 0 0) i := fun i hi hf => by
            have h1 := (hown3.lt i hi).1
            have h2 := (HTwo8.out.b.t.ge i hf).2
            omega
          rw [hS0] at hown3
          have HUG := Lib.hid (ug_step F n g p true)
          have HUO := Lib.hid (ug_ok F n g p true)
          have HOR := Lib.hid (order HFS.out.2.2.2 HFS.out.2.1 HFS.out.1 HFS.out.2.2.1 n hn64 g p true HKN.out HTO.out)
          have HTwo10 : Hid (∃ x, Two W3 W1.heap.size gf gr v FQ gt g2 u T gu g3 x (ugS F n g p true (F.L.length - F.L.length)) ∧ (∀ i, (Value.slice pa' F.L.length pc').ownBlock = some i → ¬ foot gu g3 x i)) := Lib.hid ⟨_, by rw [Nat.sub_self]; exact HTwo9.out, hap⟩
          obtain ⟨m, hm⟩ : ∃ m, F.L.length = m := ⟨_, rfl⟩
          have HM := Lib.hid hm
          rw [hm] at hown3 HUG HOR HTwo10 ⊢
          have hm20 : m ≤ 20 := by have := HFS.out.2.2.1; omega
          clear kp hb3 hbV hm HTwo8 HTwo9 hap hS0
          go_wp2_with fail
          go_loopw [15] (fun iv W => ∃ j : Nat, j ≤ m ∧ iv = .int .i64 ((j : Int) - 1) ∧ Hid (∃ x, Two W W1.heap.size gf gr v FQ gt g2 u T gu g3 x (ugS F n g p true (m - j)) ∧ (∀ i, (Value.slice pa' m pc').ownBlock = some i → ¬ foot gu g3 x i)) ∧ W.ownsRow S0 43 2 (.slice pa' m pc') m (flat enPd F.L) ∧ Below V.heap.size V W) (fun iv _ => (intOf iv + 1).toNat)
          case atStart => exact ⟨m, Nat.le_refl _, rfl, HTwo10, hown3, hbV3⟩
          case round =>
            clear HTwo10 hown3 hbV3
            obtain ⟨j, hj, rfl, HTwo, hown, hbV⟩ := hrel
            cases j with
            | succ q =>
              rw [show ((q + 1 : Nat) : Int) - 1 = (q : Int) by omega]
              have q0 : (0 : Int) ≤ (q : Int) := Int.natCast_nonneg _
              have q1 : (q : Int) < (m : Int) := by omega
              have t2 : decide ((0 : Int) ≤ (q : Int)) = true := decide_eq_true q0
              obtain ⟨x, hx⟩ : ∃ x, F.L[q]? = some x := ⟨_, List.getElem?_eq_getElem (by rw [HM.out]; omega)⟩
              obtain ⟨b, o, rfl, hlt, hc⟩ := (own_seq enPd_len hown HM.out) q x hx
              rw [off_eq] at hc
              have HS := Lib.hid (HUG.out q (by omega))
              rw [show F.L.getD q (0, nob) = x by rw [List.getD_eq_getElem?_getD, hx]; rfl] at HS
              have HX := Lib.hid (chain_in HFS.out.1.ch x (List.mem_of_getElem? hx))
              have e0 := fun pX => cell_ext (w := wr) (a := ⟨b, o + q * 2, none⟩) (p := pX) hlt (hc 0 (.int .i64 (x.1 : Int)) rfl)
              have e1 := fun pX => cell_ext (w := wr) (p := pX) hlt (hc 1 (.string x.2) rfl)
              have hB5 := Blk.below HB3.out hbV HB3.out.lt
              have f0 := fun pX => Blk.cell (blk_ext hB5 pX) 0 (v := .slice ga gn gc) rfl
              have kin := fun pX => in_any (ext wr pX) ga gc g (q : Int) gn HN.out.2.2.1 (by omega) ((HG.out.below (Nat.le_refl _) hbV).below (Nat.le_refl _) (below_ext wr pX))
              obtain ⟨y, hy⟩ : ∃ y, decide ((q : Int) ∈ g) = y := ⟨_, rfl⟩
              have HY := Lib.hid hy
              rw [hy] at kin
              clear hx hlt hc hB5 hy
              cases y with
              | true =>
                have HS1 := Lib.hid (show ugS F n g p true (m - q) = ugS F n g p true (m - (q + 1)) by rw [HS.out, if_pos (of_decide_eq_true HY.out)])
                go_wp2_with fail
                refine Go.Proofs.YtlocgilgdnhnlaaGreatDoor.Q.region_ext_tail 17 (by kernel_rfl) (by kernel_rfl) ?_
                simp only [List.take_succ_cons, List.take_zero, List.drop_succ_cons, List.drop_zero]
                repeat (go_big_quiet_step ((go_at_call 16; refine ext_call_same (kin _))))
                refine wpQuiet_nil ?_
                rintro w9 ⟨pq, rfl⟩
                obtain ⟨x', hft, hap⟩ := HTwo.out
                have HF9 := Lib.hid (show ∃ x', Two (ext wr pq) W1.heap.size gf gr v FQ gt g2 u T gu g3 x' (ugS F n g p true (m - q)) ∧ (∀ i, (Value.slice (some ⟨b, o, none⟩) m pc').ownBlock = some i → ¬ foot gu g3 x' i) from ⟨x', by rw [HS1.out]; exact hft.below (below_ext wr pq), hap⟩)
                have HO9 := Lib.hid (own_below hown (below_ext wr pq))
                have hbV9 := hbV.trans ((below_ext wr pq).mono hbV.size)
                clear e0 e1 f0 kin HTwo hft hap hown hbV
                go_wp2_with fail
                go_roundw
                case rel => exact ⟨q, by omega, rfl, HF9, HO9.out, hbV9⟩
                case measure => simp [intOf] <;> omega
              | false =>
                have HS1 := Lib.hid (show ugS F n g p true (m - q) = putS (ugS F n g p true (m - (q + 1))) (x.1 : Int) x.2 by rw [HS.out, if_neg (of_decide_eq_false HY.out)])
                go_wp2_with fail
                refine Go.Proofs.YtlocgilgdnhnlaaGreatDoor.Q.region_ext_tail 17 (by kernel_rfl) (by kernel_rfl) ?_
                simp only [List.take_succ_cons, List.take_zero, List.drop_succ_cons, List.drop_zero]
                repeat (go_big_quiet_step ((go_at_call 16; refine ext_call_same (kin _))))
                refine wpQuiet_nil ?_
                rintro w9 ⟨pq, rfl⟩
                obtain ⟨x', hft, hap⟩ := HTwo.out
                have hft9 := hft.below (below_ext wr pq)
                have hO9 := own_below hown (below_ext wr pq)
                have hbV9 := hbV.trans ((below_ext wr pq).mono hbV.size)
                have hTok := HUO.out (m - (q + 1)) (by omega)
                have hdz := HX.out.2.2
                have kpt := put_any (ext wr pq) W1.heap.size gu g3 x' (ugS F n g p true (m - (q + 1))) (x.1 : Int) x.2 hft9.b.t hTok.1 (by have := dg_size hdz; omega)
                rw [hTok.2.2, ← HS1.out] at kpt
                have hpe : putE 256 (x.1 : Int) x.2 = 0 := by
                  unfold putE
                  have h1 := HX.out.2.1
                  have h2 := HFS.out.1.ok.u
                  have h3 := HFS.out.2.1
                  have h4 := HFS.out.1.ok.C
                  have h5 : F.R * F.C ≤ 256 * 191 := by rw [h3]; exact Nat.mul_le_mul_left _ h4
                  rw [if_neg]
                  omega
                rw [hpe] at kpt
                have HFT9 := Lib.hid (And.intro hft9 (And.intro hap (And.intro hO9 hbV9)))
                clear e0 e1 f0 kin HTwo hft hap hown hbV hft9 hO9 hbV9 hTok hdz hpe
                go_wp2_with fail
                (with_reducible refine (kpt).mono ?_); rintro e4 W4 ⟨u', rfl, ht4, hfar4, hk4⟩
                obtain ⟨hft9, hap, hO9, hbV9⟩ := HFT9.out
                have hFT4 := hft9.right ht4 hfar4 hk4
                have hap4 : ∀ i, (Value.slice (some ⟨b, o, none⟩) m pc').ownBlock = some i → ¬ foot gu g3 u' i := fun i hi hf => by
                  rcases hf with e | e | e
                  · exact hap i hi (Or.inl e)
                  · exact hap i hi (Or.inr (Or.inl e))
                  · rcases hfar4 with h1 | ⟨j, h1, h2⟩
                    · exact hap i hi (Or.inr (Or.inr (h1 ▸ e)))
                    · rw [h1] at e
                      injection e with e
                      have := (hO9.lt i hi).2
                      omega
                have HO4 := Lib.hid (own_kept hO9 hk4 hap)
                have hbV4 := hbV9.trans (hk4.be hbV9.size (fun i hi => Nat.le_trans HSZV.out (hft9.b.t.ge i hi).1))
                have HF4 := Lib.hid (show ∃ x', Two W4 W1.heap.size gf gr v FQ gt g2 u T gu g3 x' (ugS F n g p true (m - q)) ∧ (∀ i, (Value.slice (some ⟨b, o, none⟩) m pc').ownBlock = some i → ¬ foot gu g3 x' i) from ⟨u', hFT4, hap4⟩)
                clear kpt ht4 hfar4 hk4 hft9 hap hO9 hbV9 hFT4 hap4 HFT9
                go_wp2_with fail
                go_roundw
                case rel => exact ⟨q, by omega, rfl, HF4, HO4.out, hbV4⟩
                case measure => simp [intOf] <;> omega
            | zero =>
              obtain ⟨x, htw, _⟩ := HTwo.out
              obtain ⟨Wq, rfl⟩ : ∃ Wq : World, Wq = wr := ⟨_, rfl⟩
              rw [Nat.sub_zero, HOR.out] at htw
              have HTW := Lib.hid htw
              have HBV := Lib.hid hbV
              clear HTwo htw hown hbV hj
              go_wp2_with fail
              go_loopw [16] (fun iv W => ∃ i : Nat, i ≤ 256 ∧ iv = .int .i64 i ∧ Below Wq.heap.size Wq W) (fun iv _ => 256 - (intOf iv).toNat)
              case atStart => exact ⟨0, by omega, rfl, Below.refl _ _⟩
              case round =>
                obtain ⟨i, hi, rfl, hbe⟩ := hrel
                have i0 : (0 : Int) ≤ (i : Int) := Int.natCast_nonneg _
                have hbV := HBV.out.trans (hbe.mono HBV.out.size)
                have hB6 := Blk.below HB2.out hbV HB2.out.lt
                have e0 := Blk.cell hB6 0 (v := .int .i64 256) rfl
                have HT1 := Lib.hid (HTW.out.below hbe)
                by_cases hin : i < 256
                · have t0 : decide ((i : Int) < 256) = true := decide_eq_true (by omega)
                  have kl1 := TbQ.Lost_any wr W1.heap.size gt g2 (i : Int) u T HT1.out.a.t
                  have kl2 := fun V3 (hb : Below wr.heap.size wr V3) => TbQ.Lost_any V3 W1.heap.size gu g3 (i : Int) x T (HT1.out.b.t.below hb)
                  rw [if_pos ⟨by omega, by rw [HTR.out]; omega⟩, if_pos ⟨by omega, by rw [HTR.out]; omega⟩, Int.toNat_natCast] at kl1 kl2
                  obtain ⟨z, hz⟩ : ∃ z, (lostL T i).length = z := ⟨_, rfl⟩
                  rw [hz] at kl1 kl2
                  clear hz hB6 hbV
                  go_wp2_with fail
                  (with_reducible refine (kl1).mono ?_); rintro e3 W5 ⟨hb5, rfl⟩
                  have kl3 := kl2 W5 hb5
                  clear kl1 kl2 e0
                  go_wp2_with fail
                  (with_reducible refine (kl3).mono ?_); rintro e3 W6 ⟨hb6, rfl⟩
                  have hbe6 := hbe.trans ((hb5.trans (hb6.mono hb5.size)).mono hbe.size)
                  clear kl3 hb5 hb6 hbe HT1
                  go_wp2_with fail
                  refine ⟨?_, ?measure⟩
                  · repeat apply Exists.intro
                    refine ⟨?_, rfl⟩
                    exact ⟨i + 1, by omega, by go_num, hbe6⟩
                  case measure => simp [intOf]; omega
                · obtain rfl : i = 256 := by omega
                  have t0 : decide (((256 : Nat) : Int) < 256) = false := by decide
                  have km1 := TbW.mend_any wr W1.heap.size gt g2 u T (rowC F) HT1.out.a.t (by rw [HTR.out]; decide) HRO.out
                  have km2 := fun V3 (tw : TbIn V3 W1.heap.size gu g3 x T) => TbW.mend_any V3 W1.heap.size gu g3 x T (rowC F) tw (by rw [HTR.out]; decide) HRO.out
                  rw [HTR.out] at km1 km2
                  obtain ⟨M, hsub, hout, _, _⟩ := sees_out HFS.out.2.2.2 HFS.out.2.1 HFS.out.1 HSE.out
                  have hd20 : (outAt (mdS T (rowC F) 256) 0).length ≤ 20 := by
                    rw [hout, List.length_map]
                    have := hsub.length_le
                    have := HFS.out.2.2.1
                    omega
                  have HSok := Lib.hid HSE.out.ok
                  obtain ⟨S, hS⟩ : ∃ S, mdS T (rowC F) 256 = S := ⟨_, rfl⟩
                  rw [hS] at km1 km2 hd20 HSok
                  have hm1 : (cntM T 256 : Int) ≤ 1024 := by have := cntM_le T 256; omega
                  have hf1 : (cntF T 256 : Int) ≤ 1024 := by have := cntF_le T 256; omega
                  obtain ⟨m1, hm⟩ : ∃ m, cntM T 256 = m := ⟨_, rfl⟩
                  obtain ⟨f, hf⟩ : ∃ f, cntF T 256 = f := ⟨_, rfl⟩
                  rw [hm] at km1 km2 hm1
                  rw [hf] at km1 km2 hf1
                  clear hm hf hS hsub hout hB6 hbe
                  go_wp2_with fail
                  (with_reducible refine (km1).mono ?_); rintro e3 W5 ⟨rfl, ht5, hk5⟩
                  have HT2 := Lib.hid (HT1.out.left ht5 (hk5.mono (fun i _ e => Or.inr (Or.inl e))))
                  have hbV5 := hbV.trans (hk5.be hbV.size (fun i e => by subst e; exact Nat.le_trans HSZV.out HT1.out.a.t.br))
                  have km3 := km2 W5 HT2.out.b.t
                  clear km1 km2 ht5 hk5 hbV HT1 e0
                  go_wp2_with fail
                  (with_reducible refine (km3).mono ?_); rintro e3 W6 ⟨rfl, ht6, hk6⟩
                  have HT3 := Lib.hid (HT2.out.right ht6 (far_refl _ _) (hk6.mono (fun i _ e => Or.inr (Or.inl e))))
                  have hbV6 := hbV5.trans (hk6.be hbV5.size (fun i e => by subst e; exact Nat.le_trans HSZV.out HT2.out.b.t.br))
                  have ko1 := out_any W6 W1.heap.size gt g2 u S HT3.out.a.t HSok.out
                  clear km3 ht6 hk6 hbV5 HT2
                  go_wp2_with fail
                  (with_reducible refine (ko1).mono ?_); rintro e3 W7 ⟨hb7, ov1, rfl, hown7⟩
                  obtain ⟨oa1, oc1, hov⟩ := own_form hown7
                  subst hov
                  have HT4 := Lib.hid (HT3.out.below hb7)
                  have hbV7 := hbV6.trans (hb7.mono hbV6.size)
                  have ko2 := out_any W7 W1.heap.size gu g3 x S HT4.out.b.t HSok.out
                  clear ko1 hb7 hbV6 HT3
                  go_wp2_with fail
                  (with_reducible refine (ko2).mono ?_); rintro e3 W8 ⟨hb8, ov2, rfl, hown8⟩
                  obtain ⟨oa2, oc2, hov⟩ := own_form hown8
                  subst hov
                  have hbV8 := hbV7.trans (hb8.mono hbV7.size)
                  have HBW := Lib.hid (HBE.out.trans (hbV8.mono HBE.out.size))
                  have HS1 := Lib.hid (own_seq (en := enPl S) (sz := 2) (fun _ => rfl) (own_below hown7 hb8) rfl)
                  have HS2 := Lib.hid (own_seq (en := enPl S) (sz := 2) (fun _ => rfl) hown8 rfl)
                  obtain ⟨O, hO⟩ : ∃ O, outAt S 0 = O := ⟨_, rfl⟩
                  rw [hO] at HS1 HS2 hd20 ⊢
                  obtain ⟨d, hd⟩ : ∃ d, O.length = d := ⟨_, rfl⟩
                  have HD := Lib.hid hd
                  rw [hd] at hd20 ⊢
                  clear ko2 hb8 hown7 hown8 hbV7 hbV8 HT4 hO hd
                  go_wp2_with fail
                  go_loopw [27] (fun kv W => ∃ k : Nat, k ≤ d ∧ kv = .int .i64 k ∧ Below W8.heap.size W8 W) (fun kv _ => d - (intOf kv).toNat)
                  case atStart => exact ⟨0, by omega, rfl, Below.refl _ _⟩
                  case round =>
                    obtain ⟨k, hk, rfl, hbe⟩ := hrel
                    have k0 : (0 : Int) ≤ (k : Int) := Int.natCast_nonneg _
                    by_cases hkn : k < d
                    · have t3 : decide ((k : Int) < (d : Int)) = true := decide_eq_true (by omega)
                      have t3' : decide (k < d) = true := decide_eq_true hkn
                      have k1 : (k : Int) < (d : Int) := by omega
                      have k20 : (k : Int) ≤ 20 := by omega
                      obtain ⟨y, hy⟩ : ∃ y, O[k]? = some y := ⟨_, List.getElem?_eq_getElem (by rw [HD.out]; exact hkn)⟩
                      obtain ⟨b1, o1, rfl, hlt1, hc1⟩ := HS1.out k y hy
                      obtain ⟨b2, o2, rfl, hlt2, hc2⟩ := HS2.out k y hy
                      rw [off_eq] at hc1 hc2
                      have a1 := hc1 0 (.int .i64 (y.1 : Int)) rfl
                      have a2 := hc1 1 (.string (str (bytesL S y.1 y.2))) rfl
                      have c1 := hc2 0 (.int .i64 (y.1 : Int)) rfl
                      have c2 := hc2 1 (.string (str (bytesL S y.1 y.2))) rfl
                      have q1 := fun pX => (World.cell?_of_block (a := ⟨b1, o1 + k * 2, none⟩) ((hbe.trans ((below_ext wr pX).mono hbe.size)).block b1 hlt1)).trans a1
                      have q2 := fun pX => (World.cell?_of_block (a := ⟨b1, o1 + k * 2 + 1, none⟩) ((hbe.trans ((below_ext wr pX).mono hbe.size)).block b1 hlt1)).trans a2
                      have q3 := fun pX => (World.cell?_of_block (a := ⟨b2, o2 + k * 2, none⟩) ((hbe.trans ((below_ext wr pX).mono hbe.size)).block b2 hlt2)).trans c1
                      have q4 := fun pX => (World.cell?_of_block (a := ⟨b2, o2 + k * 2 + 1, none⟩) ((hbe.trans ((below_ext wr pX).mono hbe.size)).block b2 hlt2)).trans c2
                      obtain ⟨s1, hs1⟩ : ∃ s1, str (bytesL S y.1 y.2) = s1 := ⟨_, rfl⟩
                      rw [hs1] at q2 q4
                      have eqp := fun V => eqPl (y.1 : Int) s1 V
                      clear hy hlt1 hlt2 hc1 hc2 a1 a2 c1 c2 hs1
                      go_wp2_with fail
                      refine Go.Proofs.YtlocgilgdnhnlaaGreatDoor.Q.region_ext (by kernel_rfl) (by kernel_rfl) ?_
                      repeat (go_big_quiet_step (fail))
                      refine wpQuiet_nil ?_
                      rintro w9 ⟨pq, rfl⟩
                      have hbe9 := hbe.trans ((below_ext wr pq).mono hbe.size)
                      clear q1 q2 q3 q4 hbe eqp
                      go_wp2_with fail
                      go_roundw
                      case rel => exact ⟨k + 1, by omega, by go_num, hbe9⟩
                      case measure => simp [intOf]; omega
                    · obtain rfl : k = d := by omega
                      have t3 : decide ((k : Int) < (k : Int)) = false := decide_eq_false (by omega)
                      have t3' : decide (k < k) = false := decide_eq_false (by omega)
                      have hbw := HBW.out.trans (hbe.mono HBW.out.size)
                      have ka := LaE.awake_any wr (HT0.out.be hbw)
                      clear hbe
                      go_wp2_with fail
                      (with_reducible refine (ka).mono ?_); rintro e9 W9 ⟨rfl, hb9⟩
                      have hbw9 := hbw.trans (hb9.mono hbw.size)
                      clear ka hb9
                      go_wp2_with fail
                      rw [HR.out]
                      exact ⟨rfl, hbw9⟩
end Go.Proofs.YtlocgilgdnhnlaaGreatDoor.OrA
