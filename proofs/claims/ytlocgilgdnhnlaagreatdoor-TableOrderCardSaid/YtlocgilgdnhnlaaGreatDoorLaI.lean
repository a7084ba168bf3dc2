/- The law's sent, walked. -/
import Derived.Test.YtlocgilgdnhnlaaGreatDoorLaH
namespace Go.Proofs.YtlocgilgdnhnlaaGreatDoor.LaI
open Go Go.RowKit Go.Proofs.YtlocgilgdnhnlaaGreatDoor.Q Go.Proofs.YtlocgilgdnhnlaaGreatDoor.Mem Go.Proofs.YtlocgilgdnhnlaaGreatDoor.Rg Go.Proofs.YtlocgilgdnhnlaaGreatDoor.Ap Go.Proofs.YtlocgilgdnhnlaaGreatDoor.St Go.Proofs.YtlocgilgdnhnlaaGreatDoor.CrB Go.Proofs.YtlocgilgdnhnlaaGreatDoor.Tab Go.Proofs.YtlocgilgdnhnlaaGreatDoor.Ints Go.Proofs.YtlocgilgdnhnlaaGreatDoor.DgC Go.Proofs.YtlocgilgdnhnlaaGreatDoor.TbM Go.Proofs.YtlocgilgdnhnlaaGreatDoor.TbO Go.Proofs.YtlocgilgdnhnlaaGreatDoor.TbP Go.Proofs.YtlocgilgdnhnlaaGreatDoor.FrA Go.Proofs.YtlocgilgdnhnlaaGreatDoor.FrB Go.Proofs.YtlocgilgdnhnlaaGreatDoor.LaA Go.Proofs.YtlocgilgdnhnlaaGreatDoor.LaG Go.Proofs.YtlocgilgdnhnlaaGreatDoor.LaH

set_option maxRecDepth 100000
/-- the frame, and the table -/
def frS (C K : Nat) (l : List Int) : Fr := frK 256 C K l l.length
def tbS (C K : Nat) (l g p : List Int) (pad : Bool) : Tb :=
  let T := tbM (FrC.parL (frS C K l) (64 - K)) p (tbK (frS C K l).L g (emptyT 256) (frS C K l).L.length) (64 - K)
  if pad then TbR.padS T (padN (frS C K l) : Nat) else T
structure Sent (C K : Nat) (l g p : List Int) (pad : Bool) (w : World) (e : Ending) (w' : World) : Prop where
  ok : ∃ (gf gr : Nat) (v : Value) (gt g2 : Nat) (u : Value), e = .returned (.tuple #[.pointer (some ⟨gf, 0, none⟩), .pointer (some ⟨gt, 0, none⟩), .bool true]) ∧ FT w' w.heap.size gf gr v (FrC.parS (frS C K l) (64 - K)) gt g2 u (tbS C K l g p pad)
  be : Below w.heap.size w w'
set_option maxHeartbeats 6400000 in
theorem sent_any (w : World) (C K : Nat) (la ga pa : Option Addr) (lc gn gc pn pc : Nat) (pad : Bool) (l g p : List Int) (hT : Tab 0 w) (hT2 : Tab 1 w) (hC : C ≤ 191) (hC0 : 1 ≤ C) (hK : K ≤ 64)
    (hl : Ints w la l) (hl20 : l.length ≤ 20) (hg : Ints w ga g) (hgn : g.length = gn) (hgl : gn ≤ 100) (hp : Ints w pa p) (hpn : p.length = pn) (hpl : pn ≤ 100) :
    Calls Tryz.prog 7 #[.agg #[.int .i64 256, .int .i64 (C : Int), .int .i64 (K : Int)], .slice la l.length lc, .agg #[.slice ga gn gc, .slice pa pn pc, .bool pad]] w fun e w' => Sent C K l g p pad w e w' := by
  obtain ⟨Q, hQ⟩ : ∃ Q : Ending → World → Prop, Q = (fun e w' => Sent C K l g p pad w e w') := ⟨_, rfl⟩
  rw [← hQ]
  have HR := Lib.hid hQ
  obtain ⟨n, hn⟩ : ∃ n, l.length = n := ⟨_, rfl⟩
  have HN := Lib.hid hn
  rw [hn] at hl20 ⊢
  have hB1 := Blk.new w 23 #[.int .i64 256, .int .i64 (C : Int), .int .i64 (K : Int)]
  have hbe1 := (Below.refl _ w).alloc (Nat.le_refl _) (.cells #[.int .i64 256, .int .i64 (C : Int), .int .i64 (K : Int)] 23)
  have hB2 := hB1.alloc (.cells #[.slice ga gn gc, .slice pa pn pc, .bool pad] 26)
  have hB3 := Blk.newAt (w.alloc (.cells #[.int .i64 256, .int .i64 (C : Int), .int .i64 (K : Int)] 23)) 26 #[.slice ga gn gc, .slice pa pn pc, .bool pad] (show w.heap.size + 1 = (w.alloc (.cells #[.int .i64 256, .int .i64 (C : Int), .int .i64 (K : Int)] 23)).heap.size by simp)
  have hbe2 := hbe1.alloc hbe1.size (.cells #[.slice ga gn gc, .slice pa pn pc, .bool pad] 26)
  obtain ⟨V, hV⟩ : ∃ V, (w.alloc (.cells #[.int .i64 256, .int .i64 (C : Int), .int .i64 (K : Int)] 23)).alloc (.cells #[.slice ga gn gc, .slice pa pn pc, .bool pad] 26) = V := ⟨_, rfl⟩
  rw [hV] at hB2 hB3 hbe2
  have HL := Lib.hid (hl.below (Nat.le_refl _) hbe2)
  have HG := Lib.hid (hg.below (Nat.le_refl _) hbe2)
  have HP := Lib.hid (hp.below (Nat.le_refl _) hbe2)
  have kf := FrA.new_any 256 C K V (hT2.be hbe2)
  have hTV := Lib.hid (hT.be hbe2)
  have hok : okC 256 C K = true := by unfold okC; simp [isSz]; omega
  simp only [hok, if_true] at kf
  have HB2 := Lib.hid hB2
  have HB3 := Lib.hid hB3
  have HBE := Lib.hid hbe2
  have HC := Lib.hid (And.intro hC (And.intro hC0 hK))
  have HGN := Lib.hid (And.intro hgn (And.intro hgl (And.intro hpn hpl)))
  have c0 := Blk.cell (hB2) 0 (v := .int .i64 256) rfl
  have c1 := Blk.cell (hB2) 1 (v := .int .i64 (C : Int)) rfl
  have c2 := Blk.cell (hB2) 2 (v := .int .i64 (K : Int)) rfl
  clear hl hg hp hT hT2 hok hn hQ hB1 hbe1 hB2 hB3 hbe2 hC hC0 hK hgn hgl hpn hpl
  go_enter Tryz.func7, Tryz.ntmps7
  go_wp2_with fail
  (with_reducible refine (kf).mono ?_); rintro e1 W1 ⟨hb1, hf1⟩
  obtain ⟨R', C', K', gf, gr, eR, eC, eK, _, _, _, _, rfl, hF1⟩ := hf1.ok
  obtain rfl : R' = 256 := by omega
  obtain rfl : C' = C := by omega
  obtain rfl : K' = K := by omega
  have kt := TbO.new_any 256 W1 (hTV.out.be hb1)
  simp only [show isSz 256 = true from rfl, if_true] at kt
  have hB4 := Blk.below HB2.out hb1 HB2.out.lt
  have d0 := Blk.cell (hB4) 0 (v := .int .i64 256) rfl
  have d1 := Blk.cell (hB4) 1 (v := .int .i64 (C' : Int)) rfl
  have d2 := Blk.cell (hB4) 2 (v := .int .i64 (K' : Int)) rfl
  clear kf hf1 eR eC eK c0 c1 c2
  go_wp2_with fail
  (with_reducible refine (kt).mono ?_); rintro e2 W2 ⟨hb2, hf2⟩
  obtain ⟨R', gt, g2, eR, _, _, rfl, hT2⟩ := hf2
  obtain rfl : R' = 256 := by omega
  have hFT : FT W2 V.heap.size gf gr (.slice none 0 0) (frK 256 C' K' l 0) gt g2 (.slice none 0 0) (emptyT 256) := by
    refine ⟨hF1.below hb2, ?_, fun i hi ht => ?_⟩
    · have hs := hb1.size
      exact ⟨hT2.box, hT2.rows, World.ownsRow_nil _ _ _ _, hT2.ne, hT2.nt, hT2.nr, Nat.le_trans hs hT2.bt, Nat.le_trans hs hT2.br⟩
    · have h1 := (hF1.ge i hi).2
      have h2 := (hT2.ge i ht).1
      omega
  have hbV := hb1.trans (hb2.mono hb1.size)
  clear kt hF1 hT2 hb1 hb2 eR hB4 d0 d1 d2
  go_wp2_with fail
  go_loopw [13] (fun iv W => ∃ k : Nat, k ≤ n ∧ iv = .int .i64 k ∧ Hid (∃ v, FT W V.heap.size gf gr v (frK 256 C' K' l k) gt g2 (.slice none 0 0) (emptyT 256)) ∧ Below V.heap.size V W) (fun iv _ => n - (intOf iv).toNat)
  case atStart => exact ⟨0, by omega, rfl, Lib.hid ⟨_, hFT⟩, hbV⟩
  case round =>
    clear hFT hbV
    obtain ⟨k, hk, rfl, HFT, hbV⟩ := hrel
    have k0 : (0 : Int) ≤ (k : Int) := Int.natCast_nonneg _
    by_cases hkn : k < n
    · have t0 : decide ((k : Int) < (n : Int)) = true := decide_eq_true (by omega)
      have t0' : decide (k < n) = true := decide_eq_true hkn
      obtain ⟨z, hz⟩ : ∃ z, l[k]? = some z := ⟨_, List.getElem?_eq_getElem (by rw [HN.out]; exact hkn)⟩
      obtain ⟨b, o, rfl, hlt, hc⟩ := (HL.out.below (Nat.le_refl _) hbV) k z hz
      have HS := Lib.hid (frK_succ 256 C' K' l k)
      rw [show l.getD k 0 = z by rw [List.getD_eq_getElem?_getD, hz]; rfl] at HS
      have k1 : (k : Int) < (n : Int) := by omega
      have k2 : (k : Int) < 20 := by omega
      have km := fun V => made_any z k V (by omega)
      have HM := Lib.hid (made_ok z k)
      clear hz hlt
      go_wp2_with fail
      (with_reducible refine (km _).mono ?_); rintro e3 W3 ⟨rfl, hb3⟩
      obtain ⟨v, hft⟩ := HFT.out
      have HFT3 := Lib.hid (hft.below hb3)
      have hbV3 := hbV.trans (hb3.mono hbV.size)
      have ka := FrB.add_any W3 V.heap.size gf gr v (frK 256 C' K' l k) (madeD z k) HFT3.out.f (frK_ok (by decide) (by decide) HC.out.1 l k).ok (by rw [HM.out.2]; unfold madeK; omega)
      rw [← HS.out] at ka
      clear km hft hb3 HFT hbV
      go_wp2_with fail
      (with_reducible refine (ka).mono ?_); rintro e4 W4 ⟨v', rfl, hf4, hfar, hk4⟩
      have hFT4 := HFT3.out.frame hf4 hfar hk4
      have hbV4 := hbV3.trans (hk4.be hbV3.size (fun i hi => (HFT3.out.f.ge i hi).1))
      have HFT4 := Lib.hid (show ∃ v, FT W4 V.heap.size gf gr v (frK 256 C' K' l (k + 1)) gt g2 (.slice none 0 0) (emptyT 256) from ⟨v', hFT4⟩)
      clear ka hf4 hfar hk4 hFT4 HFT3 hbV3
      go_wp2_with fail
      go_roundw
      case rel => exact ⟨k + 1, by omega, by go_num, HFT4, hbV4⟩
      case measure => simp [intOf]; omega
    · obtain rfl : k = n := by omega
      have t0 : decide ((k : Int) < (k : Int)) = false := decide_eq_false (by omega)
      have t0' : decide (k < k) = false := decide_eq_false (by omega)
      obtain ⟨v, hft⟩ := HFT.out
      have HFS := Lib.hid (show frK 256 C' K' l k = frS C' K' l by rw [frS, HN.out])
      rw [HFS.out] at hft
      have HOL : Hid (OkL (frS C' K' l) ∧ (frS C' K' l).R = 256 ∧ (frS C' K' l).C = C' ∧ (frS C' K' l).K = K' ∧ (frS C' K' l).L.length ≤ 20) := Lib.hid (by
        have h1 := frK_R 256 C' K' l l.length
        have h2 := frK_len 256 C' K' l l.length
        exact ⟨frK_ok (by decide) (by decide) HC.out.1 l _, h1.1, h1.2.1, h1.2.2, by rw [HN.out] at h2; exact Nat.le_trans (by rw [frS, HN.out]; exact h2) hl20⟩)
      obtain ⟨F, hF⟩ : ∃ F, frS C' K' l = F := ⟨_, rfl⟩
      have HF := Lib.hid hF
      rw [hF] at hft HOL HFS
      have kp := FrB.placed_any wr V.heap.size gf gr v F hft.f HOL.out.1.ok
      have HFT1 := Lib.hid hft
      clear HFT hft hF
      go_wp2_with fail
      (with_reducible refine (kp).mono ?_); rintro e3 W3 ⟨hb3, pv, rfl, hown3⟩
      obtain ⟨pa', pc', hpv⟩ := own_form hown3
      subst hpv
      have hFT3 := HFT1.out.below hb3
      have hbV3 := hbV.trans (hb3.mono hbV.size)
      obtain ⟨S0, hS0⟩ : ∃ S0, wr.heap.size = S0 := ⟨_, rfl⟩
      have hap : ∀ i, (Value.slice pa' F.L.length pc').ownBlock = some i → ¬ foot gt g2 (.slice none 0 0) i := fun i hi hf => by
        have h1 := (hown3.lt i hi).1
        have h2 := (HFT1.out.t.ge i hf).2
        omega
      rw [hS0] at hown3
      obtain ⟨m, hm⟩ : ∃ m, F.L.length = m := ⟨_, rfl⟩
      have HM := Lib.hid hm
      rw [hm] at hown3 hap ⊢
      have hm20 : m ≤ 20 := by have := HOL.out.2.2.2.2; omega
      clear kp hb3 hbV hm HFT1
      go_wp2_with fail
      go_loopw [15] (fun iv W => ∃ k : Nat, k ≤ m ∧ iv = .int .i64 k ∧ Hid (∃ u, FT W V.heap.size gf gr v F gt g2 u (tbK F.L g (emptyT 256) k) ∧ (∀ i, (Value.slice pa' m pc').ownBlock = some i → ¬ foot gt g2 u i)) ∧ W.ownsRow S0 43 2 (.slice pa' m pc') m (flat enPd F.L) ∧ Below V.heap.size V W) (fun iv _ => m - (intOf iv).toNat)
      case atStart => exact ⟨0, by omega, rfl, Lib.hid ⟨_, hFT3, hap⟩, hown3, hbV3⟩
      case round =>
        clear hFT3 hap hown3 hbV3
        obtain ⟨q, hq, rfl, HFT, hown, hbV⟩ := hrel
        have q0 : (0 : Int) ≤ (q : Int) := Int.natCast_nonneg _
        by_cases hqn : q < m
        · have t1 : decide ((q : Int) < (m : Int)) = true := decide_eq_true (by omega)
          have t1' : decide (q < m) = true := decide_eq_true hqn
          obtain ⟨x, hx⟩ : ∃ x, F.L[q]? = some x := ⟨_, List.getElem?_eq_getElem (by rw [HM.out]; exact hqn)⟩
          obtain ⟨b, o, rfl, hlt, hc⟩ := (own_seq enPd_len hown HM.out) q x hx
          rw [off_eq] at hc
          have q1 : (q : Int) < (m : Int) := by omega
          have HS := Lib.hid (tbK_succ F.L g (emptyT 256) q)
          rw [show F.L.getD q (0, nob) = x by rw [List.getD_eq_getElem?_getD, hx]; rfl] at HS
          have HX := Lib.hid (chain_in HOL.out.1.ch x (List.mem_of_getElem? hx))
          have e0 := fun pX => cell_ext (w := wr) (a := ⟨b, o + q * 2, none⟩) (p := pX) hlt (hc 0 (.int .i64 (x.1 : Int)) rfl)
          have e1 := fun pX => cell_ext (w := wr) (p := pX) hlt (hc 1 (.string x.2) rfl)
          have hB5 := Blk.below HB3.out hbV HB3.out.lt
          have f0 := fun pX => Blk.cell (blk_ext hB5 pX) 0 (v := .slice ga gn gc) rfl
          have kin := fun pX => in_any (ext wr pX) ga gc g (q : Int) gn HGN.out.1 (by have := HGN.out.2.1; omega) ((HG.out.below (Nat.le_refl _) hbV).below (Nat.le_refl _) (below_ext wr pX))
          obtain ⟨y, hy⟩ : ∃ y, decide ((q : Int) ∈ g) = y := ⟨_, rfl⟩
          have HY := Lib.hid hy
          rw [hy] at kin
          clear hx hlt hc hB5 hy
          cases y with
          | true =>
            have HS1 := Lib.hid (show tbK F.L g (emptyT 256) (q + 1) = tbK F.L g (emptyT 256) q by rw [HS.out, if_pos (of_decide_eq_true HY.out)])
            go_wp2_with fail
            refine Go.Proofs.YtlocgilgdnhnlaaGreatDoor.Q.region_ext_tail 17 (by kernel_rfl) (by kernel_rfl) ?_
            simp only [List.take_succ_cons, List.take_zero, List.drop_succ_cons, List.drop_zero]
            repeat (go_big_quiet_step ((go_at_call 16; refine ext_call_same (kin _))))
            refine wpQuiet_nil ?_
            rintro w9 ⟨pq, rfl⟩
            obtain ⟨u, hft, hap⟩ := HFT.out
            have HF9 := Lib.hid (show ∃ u, FT (ext wr pq) V.heap.size gf gr v F gt g2 u (tbK F.L g (emptyT 256) (q + 1)) ∧ (∀ i, (Value.slice (some ⟨b, o, none⟩) m pc').ownBlock = some i → ¬ foot gt g2 u i) from ⟨u, by rw [HS1.out]; exact hft.below (below_ext wr pq), hap⟩)
            have HO9 := Lib.hid (own_below hown (below_ext wr pq))
            have hbV9 := hbV.trans ((below_ext wr pq).mono hbV.size)
            clear e0 e1 f0 kin HFT hft hap hown hbV
            go_wp2_with fail
            go_roundw
            case rel => exact ⟨q + 1, by omega, by go_num, HF9, HO9.out, hbV9⟩
            case measure => simp [intOf]; omega
          | false =>
            have HS1 := Lib.hid (show tbK F.L g (emptyT 256) (q + 1) = putS (tbK F.L g (emptyT 256) q) (x.1 : Int) x.2 by rw [HS.out, if_neg (of_decide_eq_false HY.out)])
            go_wp2_with fail
            refine Go.Proofs.YtlocgilgdnhnlaaGreatDoor.Q.region_ext_tail 17 (by kernel_rfl) (by kernel_rfl) ?_
            simp only [List.take_succ_cons, List.take_zero, List.drop_succ_cons, List.drop_zero]
            repeat (go_big_quiet_step ((go_at_call 16; refine ext_call_same (kin _))))
            refine wpQuiet_nil ?_
            rintro w9 ⟨pq, rfl⟩
            obtain ⟨u, hft, hap⟩ := HFT.out
            have hft9 := hft.below (below_ext wr pq)
            have hO9 := own_below hown (below_ext wr pq)
            have hbV9 := hbV.trans ((below_ext wr pq).mono hbV.size)
            have hTok := tbK_ok F.L g (LaB.empty_ok (R := 256) (by decide) (by decide)) (by simp [emptyT]) q (by omega)
            have hdz := HX.out.2.2
            have kpt := put_any (ext wr pq) V.heap.size gt g2 u (tbK F.L g (emptyT 256) q) (x.1 : Int) x.2 hft9.t hTok.1 (by have := dg_size hdz; omega)
            rw [hTok.2.2, ← HS1.out] at kpt
            have hpe : putE (emptyT 256).R (x.1 : Int) x.2 = 0 := by
              unfold putE
              have h1 := HX.out.2.1
              have h2 := HOL.out.1.ok.u
              have h3 := HOL.out.2.1
              have h4 := HOL.out.1.ok.C
              have h5 : F.R * F.C ≤ 256 * 191 := by rw [h3]; exact Nat.mul_le_mul_left _ h4
              rw [if_neg]
              rw [show (emptyT 256).R = 256 from rfl]
              omega
            rw [hpe] at kpt
            have HFT9 := Lib.hid (And.intro hft9 (And.intro hap (And.intro hO9 hbV9)))
            clear e0 e1 f0 kin HFT hft hap hown hbV hft9 hO9 hbV9 hTok hdz hpe
            go_wp2_with fail
            (with_reducible refine (kpt).mono ?_); rintro e4 W4 ⟨u', rfl, ht4, hfar4, hk4⟩
            obtain ⟨hft9, hap, hO9, hbV9⟩ := HFT9.out
            have hFT4 := hft9.table ht4 hfar4 hk4
            have hap4 : ∀ i, (Value.slice (some ⟨b, o, none⟩) m pc').ownBlock = some i → ¬ foot gt g2 u' i := fun i hi hf => by
              rcases hf with e | e | e
              · exact hap i hi (Or.inl e)
              · exact hap i hi (Or.inr (Or.inl e))
              · rcases hfar4 with h1 | ⟨j, h1, h2⟩
                · exact hap i hi (Or.inr (Or.inr (h1 ▸ e)))
                · rw [h1] at e
                  injection e with e
                  have := (hO9.lt i hi).2
                  omega
            have HO4 := Lib.hid (own_kept hO9 hk4 hap)
            have hbV4 := hbV9.trans (hk4.be hbV9.size (fun i hi => (hft9.t.ge i hi).1))
            have HF4 := Lib.hid (show ∃ u, FT W4 V.heap.size gf gr v F gt g2 u (tbK F.L g (emptyT 256) (q + 1)) ∧ (∀ i, (Value.slice (some ⟨b, o, none⟩) m pc').ownBlock = some i → ¬ foot gt g2 u i) from ⟨u', hFT4, hap4⟩)
            clear kpt ht4 hfar4 hk4 hft9 hap hO9 hbV9 hFT4 hap4 HFT9
            go_wp2_with fail
            go_roundw
            case rel => exact ⟨q + 1, by omega, by go_num, HF4, HO4.out, hbV4⟩
            case measure => simp [intOf]; omega
        · obtain rfl : q = m := by omega
          have t1 : decide ((q : Int) < (q : Int)) = false := decide_eq_false (by omega)
          have t1' : decide (q < q) = false := decide_eq_false (by omega)
          obtain ⟨u, hft, _⟩ := HFT.out
          have hTok := tbK_ok F.L g (LaB.empty_ok (R := 256) (by decide) (by decide)) (by simp [emptyT]) q (by omega)
          rw [show (emptyT 256).R = 256 from rfl] at hTok
          obtain ⟨T1, hT1⟩ : ∃ T1, tbK F.L g (emptyT 256) q = T1 := ⟨_, rfl⟩
          have HT1 := Lib.hid hT1
          rw [hT1] at hft hTok
          have kpr := FrC.parity_any wr V.heap.size gf gr v F hft.f HOL.out.1.ok (by rw [HOL.out.2.2.2.1]; exact HC.out.2.2)
          rw [HOL.out.2.2.2.1] at kpr
          obtain ⟨S1, hS1⟩ : ∃ S1, wr.heap.size = S1 := ⟨_, rfl⟩
          have HFT1 := Lib.hid hft
          have HTOK := Lib.hid hTok
          have HPL : Hid ((FrC.parL F (64 - K')).length = 64 - K' ∧ ∀ s ∈ FrC.parL F (64 - K'), s.size = 256) := Lib.hid ⟨by simp [FrC.parL], fun s hs => by
            obtain ⟨i, _, rfl⟩ := List.mem_map.1 hs
            rw [str_size, FrC.colS, List.length_map, List.length_range, FrC.fresh_R, HOL.out.2.1]⟩
          have HPF : Hid (padN (FrC.parS F (64 - K')) = padN F ∧ (FrC.parS F (64 - K')).R = 256 ∧ (FrC.parS F (64 - K')).used = F.used) := Lib.hid (by
            have h1 : (FrC.parS F (64 - K')).R = F.R ∧ (FrC.parS F (64 - K')).used = F.used := by
              unfold FrC.parS FrC.freshS
              split
              · exact ⟨rfl, rfl⟩
              · split <;> exact ⟨rfl, rfl⟩
            exact ⟨by unfold padN; rw [h1.1, h1.2], h1.1.trans HOL.out.2.1, h1.2⟩)
          obtain ⟨M, hM⟩ : ∃ M, 64 - K' = M := ⟨_, rfl⟩
          have HMM := Lib.hid hM
          rw [hM] at kpr HPL HPF
          have hM64 : M ≤ 64 := by omega
          obtain ⟨FP, hFP⟩ : ∃ FP, FrC.parS F M = FP := ⟨_, rfl⟩
          have HFP := Lib.hid hFP
          rw [hFP] at kpr HPF
          have HFU := Lib.hid (fun i hi => (hft.ge i hi))
          rw [hS1] at HFU kpr
          clear HFT hft hTok hT1 hM hFP hown
          go_wp2_with fail
          (with_reducible refine (kpr).mono ?_); rintro e3 W3 ⟨hf3, hk3, mv, rfl, hown3⟩
          obtain ⟨ma, mc, hmv⟩ := own_form hown3
          subst hmv
          have hFT3 := HFT1.out.frame hf3 (far_refl _ _) hk3
          have hbV3 := hbV.trans (hk3.be hbV.size (fun i hi => (HFT1.out.f.ge i hi).1))
          clear kpr hf3 hk3 hbV HFT1
          go_wp2_with fail
          go_loopw [17] (fun iv W => ∃ k : Nat, k ≤ M ∧ iv = .int .i64 k ∧ Hid (FT W V.heap.size gf gr v FP gt g2 u (tbM (FrC.parL F M) p T1 k)) ∧ W.ownsRow S1 9 1 (.slice ma M mc) M (flat enS (FrC.parL F M)) ∧ Below V.heap.size V W) (fun iv _ => M - (intOf iv).toNat)
          case atStart => exact ⟨0, by omega, rfl, Lib.hid hFT3, hown3, hbV3⟩
          case round =>
            clear hFT3 hown3 hbV3
            obtain ⟨k, hk, rfl, HFT, hown, hbV⟩ := hrel
            have k0 : (0 : Int) ≤ (k : Int) := Int.natCast_nonneg _
            by_cases hkn : k < M
            · have t2 : decide ((k : Int) < (M : Int)) = true := decide_eq_true (by omega)
              have t2' : decide (k < M) = true := decide_eq_true hkn
              obtain ⟨x, hx⟩ : ∃ x, (FrC.parL F M)[k]? = some x := ⟨_, List.getElem?_eq_getElem (by rw [HPL.out.1]; exact hkn)⟩
              obtain ⟨b, o, rfl, hlt, hc⟩ := (own_seq enS_len hown HPL.out.1) k x hx
              have k1 : (k : Int) < (M : Int) := by omega
              have HS := Lib.hid (tbM_succ (FrC.parL F M) p T1 k)
              rw [show (FrC.parL F M).getD k nob = x by rw [List.getD_eq_getElem?_getD, hx]; rfl] at HS
              have HX := Lib.hid (HPL.out.2 x (List.mem_of_getElem? hx))
              have e0 : wr.cell? ⟨b, o + k, none⟩ = some (.string x) := hc 0 (.string x) rfl
              have hB5 := Blk.below HB3.out hbV HB3.out.lt
              have f0 := Blk.cell hB5 1 (v := .slice pa pn pc) rfl
              have kin := in_any wr pa pc p (k : Int) pn HGN.out.2.2.1 (by have := HGN.out.2.2.2; omega) (HP.out.below (Nat.le_refl _) hbV)
              obtain ⟨y, hy⟩ : ∃ y, decide ((k : Int) ∈ p) = y := ⟨_, rfl⟩
              have HY := Lib.hid hy
              rw [hy] at kin
              clear hx hlt hc hB5 hy
              cases y with
              | true =>
                have HS1 := Lib.hid (show tbM (FrC.parL F M) p T1 (k + 1) = tbM (FrC.parL F M) p T1 k by rw [HS.out, if_pos (of_decide_eq_true HY.out)])
                have HF9 : Hid (FT wr V.heap.size gf gr v FP gt g2 u (tbM (FrC.parL F M) p T1 (k + 1))) := Lib.hid (by rw [HS1.out]; exact HFT.out)
                clear HFT
                go_wp2_with fail
                (with_reducible refine (kin).mono ?_); rintro e4 W4 ⟨rfl, rfl⟩
                clear kin e0 f0
                go_wp2_with fail
                go_roundw
                case rel => exact ⟨k + 1, by omega, by go_num, HF9, hown, hbV⟩
                case measure => simp [intOf]; omega
              | false =>
                have HS1 := Lib.hid (show tbM (FrC.parL F M) p T1 (k + 1) = TbR.parS (tbM (FrC.parL F M) p T1 k) (k : Int) x by rw [HS.out, if_neg (of_decide_eq_false HY.out)])
                have hTok := tbM_ok (FrC.parL F M) p HTOK.out.1 k
                have kpt := TbR.parity_any wr V.heap.size gt g2 u (tbM (FrC.parL F M) p T1 k) (k : Int) x HFT.out.t hTok.1
                rw [hTok.2.2, ← HS1.out, HTOK.out.2.2] at kpt
                have hpe : TbR.parE 256 (k : Int) x = 0 := by
                  unfold TbR.parE
                  rw [if_neg (by omega), if_neg (by rw [HX.out]; simp)]
                rw [hpe] at kpt
                clear hTok hpe
                go_wp2_with fail
                (with_reducible refine (kin).mono ?_); rintro e4 W4 ⟨rfl, rfl⟩
                clear kin
                go_wp2_with fail
                (with_reducible refine (kpt).mono ?_); rintro e4 W4 ⟨rfl, ht4, hk4⟩
                have HF4 := Lib.hid (HFT.out.table ht4 (far_refl _ _) hk4)
                have HO4 := Lib.hid (own_kept hown hk4 (fun i hi hf => by
                  have h1 := (hown.lt i hi).1
                  have h2 := (HFU.out i (Or.inr hf)).2
                  omega))
                have hbV4 := hbV.trans (hk4.be hbV.size (fun i hi => (HFT.out.t.ge i hi).1))
                clear kpt ht4 hk4 hown hbV HFT e0 f0
                go_wp2_with fail
                go_roundw
                case rel => exact ⟨k + 1, by omega, by go_num, HF4, HO4.out, hbV4⟩
                case measure => simp [intOf]; omega
            · obtain rfl : k = M := by omega
              have t2 : decide ((k : Int) < (k : Int)) = false := decide_eq_false (by omega)
              have t2' : decide (k < k) = false := decide_eq_false (by omega)
              have hB5 := Blk.below HB3.out hbV HB3.out.lt
              have f0 := Blk.cell hB5 2 (v := .bool pad) rfl
              have HTS := Lib.hid (show tbS C' K' l g p pad = if pad then TbR.padS (tbM (FrC.parL F k) p T1 k) (padN F : Nat) else tbM (FrC.parL F k) p T1 k by
                unfold tbS
                rw [HF.out, HM.out, HMM.out, HT1.out])
              have HFS2 := Lib.hid (show FrC.parS (frS C' K' l) (64 - K') = FP by rw [HF.out, HMM.out, HFP.out])
              have hTok := tbM_ok (FrC.parL F k) p HTOK.out.1 k
              obtain ⟨T2, hT2⟩ : ∃ T2, tbM (FrC.parL F k) p T1 k = T2 := ⟨_, rfl⟩
              rw [hT2] at HTS hTok HFT
              have HTOK2 := Lib.hid hTok.1
              have HBE2 := Lib.hid (HBE.out.trans (hbV.mono HBE.out.size))
              have HSZ := Lib.hid (show w.heap.size ≤ V.heap.size from HBE.out.size)
              clear hB5 hT2 hTok hown
              cases pad with
              | false =>
                rw [if_neg (by decide)] at HTS
                go_wp2_with fail
                rw [HR.out]
                exact ⟨⟨gf, gr, v, gt, g2, u, rfl, by rw [HTS.out, HFS2.out]; exact HFT.out.base HSZ.out⟩, HBE2.out⟩
              | true =>
                rw [if_pos rfl] at HTS
                have kpd := padding_any wr V.heap.size gf gr v FP HFT.out.f (by rw [HPF.out.2.1]; decide) (by
                  rw [HPF.out.2.1, HPF.out.2.2]
                  have h1 := HOL.out.1.ok.u
                  have h2 := HOL.out.2.1
                  have h3 := HOL.out.1.ok.C
                  have h4 : F.R * F.C ≤ 256 * 191 := by rw [h2]; exact Nat.mul_le_mul_left _ h3
                  omega)
                rw [HPF.out.1] at kpd
                go_wp2_with fail
                (with_reducible refine (kpd).mono ?_); rintro e3 W3 ⟨rfl, hb3⟩
                have HFT3 := Lib.hid (HFT.out.below hb3)
                have kpt := TbR.pad_any W3 V.heap.size gt g2 u T2 (padN F : Nat) HFT3.out.t HTOK2.out
                have hbV3 := hbV.trans (hb3.mono hbV.size)
                clear kpd hb3 HFT hbV f0
                go_wp2_with fail
                (with_reducible refine (kpt).mono ?_); rintro e4 W4 ⟨rfl, ht4, hk4⟩
                have HF4 := Lib.hid (HFT3.out.table ht4 (far_refl _ _) hk4)
                have hbV4 := hbV3.trans (hk4.be hbV3.size (fun i hi => (HFT3.out.t.ge i hi).1))
                have HBE4 := Lib.hid (HBE.out.trans (hbV4.mono HBE.out.size))
                clear kpt ht4 hk4 hbV3 HFT3
                go_wp2_with fail
                rw [HR.out]
                exact ⟨⟨gf, gr, v, gt, g2, u, rfl, by rw [HTS.out, HFS2.out]; exact HF4.out.base HSZ.out⟩, HBE4.out⟩
end Go.Proofs.YtlocgilgdnhnlaaGreatDoor.LaI
