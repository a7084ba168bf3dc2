/- The law BurstMakes, walked. -/
import Derived.Test.YtofedloikbmidaaGreatDoorBuL
namespace Go.Proofs.YtofedloikbmidaaGreatDoor.BuM
open Go Go.RowKit Go.Proofs.YtofedloikbmidaaGreatDoor.Q Go.Proofs.YtofedloikbmidaaGreatDoor.Mem Go.Proofs.YtofedloikbmidaaGreatDoor.Rg Go.Proofs.YtofedloikbmidaaGreatDoor.Ap Go.Proofs.YtofedloikbmidaaGreatDoor.ApG Go.Proofs.YtofedloikbmidaaGreatDoor.St Go.Proofs.YtofedloikbmidaaGreatDoor.CrB Go.Proofs.YtofedloikbmidaaGreatDoor.Ints Go.Proofs.YtofedloikbmidaaGreatDoor.Tab Go.Proofs.YtofedloikbmidaaGreatDoor.TbM Go.Proofs.YtofedloikbmidaaGreatDoor.FrA Go.Proofs.YtofedloikbmidaaGreatDoor.FrB Go.Proofs.YtofedloikbmidaaGreatDoor.FrC Go.Proofs.YtofedloikbmidaaGreatDoor.LaH Go.Proofs.YtofedloikbmidaaGreatDoor.BuC Go.Proofs.YtofedloikbmidaaGreatDoor.BuD Go.Proofs.YtofedloikbmidaaGreatDoor.BuE Go.Proofs.YtofedloikbmidaaGreatDoor.BuG Go.Proofs.YtofedloikbmidaaGreatDoor.BuJ Go.Proofs.YtofedloikbmidaaGreatDoor.BuK Go.Proofs.YtofedloikbmidaaGreatDoor.BuL

set_option maxRecDepth 100000
def enI (z : Int) : List Value := [.int .i64 z]
theorem enI_len (z : Int) : (enI z).length = 1 := rfl
theorem elemI : Elem Tryz.prog 24 3 1 8 := elem_of Tryz.underlying24 (z := .int .i64 0) (by kernel_rfl) rfl (by decide)
theorem ints_seq {w : World} {a : Option Addr} {L : List Int} (h : Seq enI 1 w a L) : Ints w a L := fun i x hi => by
  obtain ⟨b, o, e, hlt, hc⟩ := h i x hi
  exact ⟨b, o, e, hlt, by have := hc 0 _ rfl; simpa [off] using this⟩
set_option maxHeartbeats 6400000 in
theorem makes_any (R C K mac : Int) (a : Option Addr) (n cc : Nat) (l : List Int) (w : World) (hT : Tab 3 w) (hF : Tab 0 w) (hn : l.length = n) (hl : n ≤ 9223372036854775807) (hL : Ints w a l) :
    Calls Tryz.prog 3 #[.agg #[.int .i64 R, .int .i64 C, .int .i64 K], .slice a n cc, .int .i64 mac] w fun e w' => e = .returned (.bool true) ∧ Below w.heap.size w w' := by
  have HT := Lib.hid (And.intro hT hF)
  have hbk := Blk.new w 23 #[.int .i64 R, .int .i64 C, .int .i64 K]
  have hbe := (Below.refl _ w).alloc (Nat.le_refl _) (.cells #[.int .i64 R, .int .i64 C, .int .i64 K] 23)
  have d0 := Blk.cell (hbk) 0 (v := .int .i64 R) rfl
  have d1 := Blk.cell (hbk) 1 (v := .int .i64 C) rfl
  have d2 := Blk.cell (hbk) 2 (v := .int .i64 K) rfl
  have ks := sure_any R C K a n cc l (w.alloc (.cells #[.int .i64 R, .int .i64 C, .int .i64 K] 23)) (hF.be hbe) hn hl (hL.below (Nat.le_refl _) hbe)
  have HBK := Lib.hid hbk
  have HBE0 := Lib.hid hbe
  have HL := Lib.hid hL
  have HN := Lib.hid hn
  clear hT hF hbk hbe hn hl hL
  by_cases hs : sureB R C K l = true
  · rw [hs] at ks
    unfold sureB at hs
    simp only [Bool.and_eq_true, decide_eq_true_eq] at hs
    obtain ⟨_, ho, h256, h20⟩ := hs
    rw [HN.out] at h20
    subst h256
    have HO := Lib.hid ho
    clear ho
    go_enter Tryz.func3, Tryz.ntmps3
    go_wp2_with fail
    (with_reducible refine (ks).mono ?_); rintro e1 W1 ⟨rfl, hb1⟩
    have HB1 := Lib.hid (HBE0.out.trans (hb1.mono HBE0.out.size))
    have hbk1 := Blk.below HBK.out hb1 HBK.out.lt
    have kf := filled_any 256 C K a n cc l W1 (HT.out.2.be HB1.out) HN.out h20 (HL.out.below (Nat.le_refl _) HB1.out) HO.out rfl
    have e0 := Blk.cell (hbk1) 0 (v := .int .i64 256) rfl
    have e1 := Blk.cell (hbk1) 1 (v := .int .i64 C) rfl
    have e2 := Blk.cell (hbk1) 2 (v := .int .i64 K) rfl
    clear ks hb1 hbk1 d0 d1 d2
    go_wp2_with fail
    (with_reducible refine (kf).mono ?_); rintro e1 W2 ⟨⟨c, k, gf, gr, v, rfl, rfl, hc, hk, rfl, hf2⟩, hb2⟩
    have HB2 := Lib.hid (HB1.out.trans (hb2.mono HB1.out.size))
    have HMK := Lib.hid (frK_mk hc hk l (by rw [HN.out]; exact h20))
    obtain ⟨S, hS⟩ : ∃ S, frK 256 c k l l.length = S := ⟨_, rfl⟩
    rw [hS] at hf2 HMK
    have HF2 := Lib.hid hf2
    clear kf e0 e1 e2 hb2 hS hf2
    by_cases h0 : S.L.length = 0
    · have km := make_none W2 W1.heap.size gf gr v S mac HF2.out (HMK.out.zero h0)
      have kp := placed_any W2 W1.heap.size gf gr v S HF2.out HMK.out.ok
      rw [h0] at kp
      go_wp2_with fail
      (with_reducible refine (km).mono ?_); rintro e1 W3 ⟨rfl, rfl⟩
      go_wp2_with fail
      (with_reducible refine (kp).mono ?_); rintro e1 W4 ⟨hb4, vp, rfl, hpl⟩
      obtain ⟨pa, pc, rfl⟩ := own_form hpl
      have HBE := Lib.hid (HB2.out.trans (hb4.mono HB2.out.size))
      clear km kp hb4 hpl h0
      have HTA := Lib.hid (awake_any W4 (HT.out.1.be HBE.out) (HT.out.2.be HBE.out))
      go_wp2_with fail
      (with_reducible refine (HTA.out).mono ?_); rintro e1 W9 ⟨rfl, hb9⟩
      have hE := HBE.out.trans (hb9.mono HBE.out.size)
      go_wp2_with fail
      go_ret
      exact ⟨rfl, hE⟩
    · have km := make_any W2 W1.heap.size gf gr v S mac (HT.out.1.be HB2.out) (HT.out.1.be HB1.out).lt HF2.out HMK.out.ok HMK.out.K HMK.out.good h0 (HMK.out.pos h0) HMK.out.col
      have HL0 := Lib.hid (And.intro h0 HMK.out.n)
      obtain ⟨N, hN⟩ : ∃ N, S.L.length = N := ⟨_, rfl⟩
      have HNN := Lib.hid hN
      rw [hN] at HL0
      clear h0 hN
      go_wp2_with fail
      (with_reducible refine (km).mono ?_); rintro e1 W3 hM
      have hB3 := HB2.out.trans ((hM.kept.be (B := W1.heap.size) (by have h1 := HF2.out.box.lt; have h2 := HF2.out.bt; omega) (fun i hi => (HF2.out.ge i hi).1)).mono HB1.out.size)
      have HFT := Lib.hid (fun i hi => (HF2.out.ge i hi).2)
      have kp := placed_any W3 W1.heap.size gf gr v (parS S (64 - S.K)) hM.fr (FrC.par_ok HMK.out.ok _)
      rw [(parS_same S (64 - S.K)).1, HNN.out] at kp
      have t3 : ((N : Int) == 0) = false := beq_eq_false_iff_ne.2 (by have := HL0.out.1; omega)
      have t3' : (N == 0) = false := beq_eq_false_iff_ne.2 HL0.out.1
      have HB3 := Lib.hid hB3
      by_cases hmr : 0 ≤ mac ∧ mac ≤ 65535
      · obtain ⟨vm, rfl, hm⟩ := hM.ok hmr
        have hml := mkL_len S mac
        obtain ⟨M, hMM⟩ : ∃ M, (mkL S mac).length = M := ⟨_, rfl⟩
        rw [hMM] at hm hml
        rw [HNN.out] at hml
        obtain ⟨ma, mc, rfl⟩ := own_form hm
        have HFR := Lib.hid hM.fr
        have HM := Lib.hid hm
        have HK3 := Lib.hid hM.kept.size
        have HMR := Lib.hid hmr
        have HML := Lib.hid (And.intro hMM hml)
        have t1 : decide (mac < 0) = false := decide_eq_false (by omega)
        have t2 : decide ((65535 : Int) < mac) = false := decide_eq_false (by omega)
        clear hM hm hB3 hmr km hMM hml
        go_wp2_with fail
        (with_reducible refine (kp).mono ?_); rintro e1 W4 ⟨hb4, vp, rfl, hpl⟩
        obtain ⟨pa, pc, rfl⟩ := own_form hpl
        have HSQ := Lib.hid (own_seq enPd_len hpl HNN.out)
        have HB34 := Lib.hid hb4
        have n20 : N ≤ 20 := HL0.out.2
        clear kp hpl hb4
        go_wp2_with fail
        go_loopw [11, 12, 13] (fun p q i wr => ∃ j : Nat, j ≤ N ∧ i = .int .i64 j ∧ wr.ownsRow W4.heap.size 9 1 p j (flat enS ((txtL S.L).take j)) ∧ wr.ownsRow W4.heap.size 3 1 q j (flat enI ((atL S.L).take j)) ∧ (∀ r, p.ownBlock = some r → q.ownBlock ≠ some r) ∧ Below W4.heap.size W4 wr) (fun _ _ i _ => N - (intOf i).toNat)
        case atStart => exact ⟨0, by omega, rfl, World.ownsRow_nil _ _ _ _, World.ownsRow_nil _ _ _ _, fun r h => by simp [Value.ownBlock] at h, Below.refl _ _⟩
        case round =>
          obtain ⟨j, hj, rfl, hp, hq, hne, hb⟩ := hrel
          have j0 : (0 : Int) ≤ (j : Int) := Int.natCast_nonneg _
          by_cases hjn : j < N
          · have t4 : decide ((j : Int) < (N : Int)) = true := decide_eq_true (by omega)
            have t4' : decide (j < N) = true := decide_eq_true hjn
            have j1 : (j : Int) < (N : Int) := by omega
            obtain ⟨⟨at_, d⟩, hx⟩ : ∃ x, S.L[j]? = some x := ⟨_, List.getElem?_eq_getElem (by rw [HNN.out]; exact hjn)⟩
            obtain ⟨b0, o0, rfl, l0, hc0⟩ := HSQ.out j _ hx
            have u0 := hc0 0 _ rfl
            have u1 := hc0 1 _ rfl
            rw [off_eq] at u0 u1
            rw [Nat.add_zero] at u0
            dsimp only at u0 u1
            have c0 := (hb.cell (p := ⟨b0, _, none⟩) l0).trans u0
            have c1 := (hb.cell (p := ⟨b0, _, none⟩) l0).trans u1
            have HX1 := Lib.hid (show (txtL S.L)[j]? = some d by unfold txtL; rw [List.getElem?_map, hx]; rfl)
            have HX2 := Lib.hid (show (atL S.L)[j]? = some (at_ : Int) by unfold atL; rw [List.getElem?_map, hx]; rfl)
            have hbs := hb.size
            clear hc0 hx u1
            go_wp2_with (first
              | (at_builtin; (refine wpList_appG rfl _ _ rfl elemS rfl (hp.alloc (.cells #[.string d] 9)) rfl rfl (blk_news (Blk.new wr 9 #[.string d])) (by simp [Value.oneCell']) (by omega) (by unfold maxLen; omega) (by simp; omega) ?_)
                 intro v9 w8 hp9 hg9 hat9
                 have hbA : Below W4.heap.size W4 w8 := (hb.alloc hbs _).grown hg9 (by simp; omega) (fun r er => (hp.lt r er).1)
                 have d0 := (hbA.cell (p := ⟨b0, _, none⟩) l0).trans u0
                 have hq9 := own_other (hq.alloc (.cells #[.string d] 9)) hg9 hne
                 have hne9 := apart_symm (apart_step hat9 (fun r hr => by have := (hq.lt r hr).2; simp; omega) hne)
                 have hbs8 := hbA.size)
              | (at_builtin; (refine wpList_appG rfl _ _ rfl elemI rfl (hq9.alloc (.cells #[.int .i64 (at_ : Int)] 3)) rfl rfl (blk_news (Blk.new w8 3 #[.int .i64 (at_ : Int)])) (by simp [Value.oneCell']) (by omega) (by unfold maxLen; omega) (by simp; omega) ?_)
                 intro v7 w7 hq7 hg7 hat7
                 have hbB : Below W4.heap.size W4 w7 := (hbA.alloc hbs8 _).grown hg7 (by simp; omega) (fun r er => (hq9.lt r er).1)
                 have hp7 := own_other (hp9.alloc (.cells #[.int .i64 (at_ : Int)] 3)) hg7 (apart_symm hne9)
                 have hne7 := apart_step hat7 (fun r hr => by have := (hp9.lt r hr).2; simp; omega) (apart_symm hne9))
              | fail)
            go_roundw
            case rel => exact ⟨j + 1, by omega, by go_num, by rw [flat_snoc HX1.out]; exact hp7, by rw [flat_snoc HX2.out]; exact hq7, hne7, hbB⟩
            case measure => simp [intOf]; omega
          · obtain rfl : j = N := by omega
            have t4 : decide ((j : Int) < (j : Int)) = false := decide_eq_false (by omega)
            have t4' : decide (j < j) = false := decide_eq_false (by omega)
            rw [List.take_of_length_le (by unfold txtL; rw [List.length_map, HNN.out]; exact Nat.le_refl _)] at hp
            rw [List.take_of_length_le (by unfold atL; rw [List.length_map, HNN.out]; exact Nat.le_refl _)] at hq
            obtain ⟨ga, gc, rfl⟩ := own_form hp
            obtain ⟨aa, ac, rfl⟩ := own_form hq
            have HB5 := Lib.hid (HB34.out.trans (hb.mono HB34.out.size))
            have HP := Lib.hid (And.intro hp hq)
            have HSZ := Lib.hid (show W2.heap.size ≤ W4.heap.size ∧ W4.heap.size ≤ wr.heap.size from ⟨Nat.le_trans HK3.out HB34.out.size, hb.size⟩)
            have hu := HMK.out.ok.u
            have hc9 := HMK.out.ok.C
            have kpd := padding_any wr W1.heap.size gf gr v (parS S (64 - S.K)) (HFR.out.below HB5.out) (by rw [(parS_same S (64 - S.K)).2.2.1, HMK.out.R]; decide) (by rw [(parS_same S (64 - S.K)).2.2.1, (parS_same S (64 - S.K)).2.1, HMK.out.R]; rw [HMK.out.R] at hu; omega)
            rw [padN_par] at kpd
            clear hp hq hne hb hu hc9
            go_wp2_with fail
            (with_reducible refine (kpd).mono ?_); rintro e1 W5 ⟨rfl, hb5⟩
            have kpr := parity_any W5 W1.heap.size gf gr v (parS S (64 - S.K)) ((HFR.out.below HB5.out).below hb5) (FrC.par_ok HMK.out.ok _) (by rw [par_K]; exact HMK.out.K)
            rw [par_K, parL_again] at kpr
            have HB6 := Lib.hid hb5
            clear kpd hb5
            go_wp2_with fail
            (with_reducible refine (kpr).mono ?_); rintro e1 W6 ⟨hf6, hk6, vq, rfl, hpp⟩
            obtain ⟨qa, qc, rfl⟩ := own_form hpp
            have hgo := own_kept (own_below HP.out.1 HB6.out) hk6 (fun i hi hf => by have h1 := (HP.out.1.lt i hi).1; have h2 := HFT.out i hf; have h3 := HSZ.out.1; omega)
            have hao := own_kept (own_below HP.out.2 HB6.out) hk6 (fun i hi hf => by have h1 := (HP.out.2.lt i hi).1; have h2 := HFT.out i hf; have h3 := HSZ.out.1; omega)
            have hmo := own_kept (own_below (own_below HM.out HB5.out) HB6.out) hk6 (fun i hi hf => by have h1 := (HM.out.lt i hi).1; have h2 := HFT.out i hf; omega)
            have kr := rmake_any S.L (parL S (64 - S.K)) (padN S : Nat) mac ga aa qa j (64 - S.K) gc ac qc W6 (own_seq enS_one hgo (by unfold txtL; rw [List.length_map, HNN.out])) (ints_seq (own_seq enI_len hao (by unfold atL; rw [List.length_map, HNN.out]))) (own_seq enS_one hpp (parL_len _ _)) HMK.out.good HMR.out HMK.out.col HNN.out (by omega) (parL_len _ _)
            have HMO := Lib.hid hmo
            have HB7 := Lib.hid (HB3.out.trans ((HB5.out.mono HB3.out.size).trans ((HB6.out.mono (by have := HB3.out.size; have := HB5.out.size; omega)).trans (hk6.be (B := w.heap.size) (by have := HB3.out.size; have := HB5.out.size; have := HB6.out.size; omega) (fun i hi => by have h1 := (HF2.out.ge i hi).1; have h2 := HB1.out.size; omega)))))
            clear kpr hf6 hk6 hpp hgo hao hmo
            go_wp2_with fail
            (with_reducible refine (kr).mono ?_); rintro e1 W7 ⟨hb7, vw, rfl, hw⟩
            rw [parL_len, HNN.out, show j + (64 - S.K) = M from HML.out.2.symm, show gL S.L mac (decide (64 - S.K = 0)) ++ cL (padN S : Nat) (parL S (64 - S.K)) = mkL S mac from rfl] at hw
            obtain ⟨wa, wc, rfl⟩ := own_form hw
            have HSW := Lib.hid (own_seq enS_one hw HML.out.1)
            have HSM := Lib.hid (own_seq enS_one (own_below HMO.out hb7) HML.out.1)
            have HBE := Lib.hid (HB7.out.trans (hb7.mono HB7.out.size))
            have hM9 : M ≤ 100 := by have := HML.out.2; omega
            have HLM := Lib.hid HML.out.1
            clear kr hb7 hw
            go_wp2_with fail
            clear HMO HB7 HB6 HB5 HP HSZ HM HFR HSQ HK3 HFT
            go_loopw [15] (fun iv W => ∃ i : Nat, i ≤ M ∧ iv = .int .i64 i ∧ Below W7.heap.size W7 W) (fun iv _ => M - (intOf iv).toNat)
            case atStart => exact ⟨0, by omega, rfl, Below.refl _ _⟩
            case round =>
              rename_i W8
              obtain ⟨i, hi, rfl, hb8⟩ := hrel
              have i0 : (0 : Int) ≤ (i : Int) := Int.natCast_nonneg _
              by_cases hiM : i < M
              · have t5 : decide ((i : Int) < (M : Int)) = true := decide_eq_true (by omega)
                have t5' : decide (i < M) = true := decide_eq_true hiM
                have i1 : (i : Int) < (M : Int) := by omega
                obtain ⟨x, hx⟩ : ∃ x, (mkL S mac)[i]? = some x := ⟨_, List.getElem?_eq_getElem (by rw [HLM.out]; exact hiM)⟩
                obtain ⟨b1, o1, rfl, l1, hc1⟩ := (HSM.out.below (Nat.le_refl _) hb8) i x hx
                obtain ⟨b2, o2, rfl, l2, hc2⟩ := (HSW.out.below (Nat.le_refl _) hb8) i x hx
                have c1 := hc1 0 _ rfl
                have c2 := hc2 0 _ rfl
                have x1 := fun p => ((below_ext _ p).cell (p := ⟨b1, o1 + i, none⟩) l1).trans c1
                have x2 := fun p => ((below_ext _ p).cell (p := ⟨b2, o2 + i, none⟩) l2).trans c2
                have t6 : (x.toList == x.toList) = true := beq_self_eq_true _
                have HB8 := Lib.hid hb8
                clear hc1 hc2 hx c1 c2 l1 l2 hb8
                go_wp2_with fail
                refine Go.Proofs.YtofedloikbmidaaGreatDoor.Q.region_ext (by kernel_rfl) (by kernel_rfl) ?_
                repeat (go_big_quiet_step (fail))
                refine wpQuiet_nil ?_
                rintro w9 ⟨pq, rfl⟩
                have hb9 := HB8.out.trans ((below_ext _ pq).mono HB8.out.size)
                clear HB8 x1 x2 t6
                go_wp2_with fail
                go_roundw
                case rel => exact ⟨i + 1, by omega, by go_num, hb9⟩
                case measure => simp [intOf]; omega
              · obtain rfl : i = M := by omega
                have t5 : decide ((i : Int) < (i : Int)) = false := decide_eq_false (by omega)
                have t5' : decide (i < i) = false := decide_eq_false (by omega)
                have HBE := Lib.hid (HBE.out.trans (hb8.mono HBE.out.size))
                clear hb8
                have HTA := Lib.hid (awake_any _ (HT.out.1.be HBE.out) (HT.out.2.be HBE.out))
                go_wp2_with fail
                (with_reducible refine (HTA.out).mono ?_); rintro e1 W9 ⟨rfl, hb9⟩
                have hE := HBE.out.trans (hb9.mono HBE.out.size)
                go_wp2_with fail
                go_ret
                exact ⟨rfl, hE⟩
      · have hE := hM.bad hmr
        subst hE
        have t2 : mac < 0 ∨ (decide (mac < 0) = false ∧ decide ((65535 : Int) < mac) = true) := by
          by_cases h : mac < 0
          · exact Or.inl h
          · exact Or.inr ⟨decide_eq_false h, decide_eq_true (by omega)⟩
        clear hM hB3 hmr km
        rcases t2 with h | ⟨t1, t2⟩
        · have t1 : decide (mac < 0) = true := decide_eq_true h
          clear h
          go_wp2_with fail
          (with_reducible refine (kp).mono ?_); rintro e1 W4 ⟨hb4, vp, rfl, hpl⟩
          obtain ⟨pa, pc, rfl⟩ := own_form hpl
          have HBE := Lib.hid (HB3.out.trans (hb4.mono HB3.out.size))
          clear kp hb4 hpl
          have HTA := Lib.hid (awake_any W4 (HT.out.1.be HBE.out) (HT.out.2.be HBE.out))
          go_wp2_with fail
          (with_reducible refine (HTA.out).mono ?_); rintro e1 W9 ⟨rfl, hb9⟩
          have hE := HBE.out.trans (hb9.mono HBE.out.size)
          go_wp2_with fail
          go_ret
          exact ⟨rfl, hE⟩
        · go_wp2_with fail
          (with_reducible refine (kp).mono ?_); rintro e1 W4 ⟨hb4, vp, rfl, hpl⟩
          obtain ⟨pa, pc, rfl⟩ := own_form hpl
          have HBE := Lib.hid (HB3.out.trans (hb4.mono HB3.out.size))
          clear kp hb4 hpl
          have HTA := Lib.hid (awake_any W4 (HT.out.1.be HBE.out) (HT.out.2.be HBE.out))
          go_wp2_with fail
          (with_reducible refine (HTA.out).mono ?_); rintro e1 W9 ⟨rfl, hb9⟩
          have hE := HBE.out.trans (hb9.mono HBE.out.size)
          go_wp2_with fail
          go_ret
          exact ⟨rfl, hE⟩
  · have hs' : sureB R C K l = false := by simpa using hs
    rw [hs'] at ks
    clear hs hs'
    go_enter Tryz.func3, Tryz.ntmps3
    go_wp2_with fail
    (with_reducible refine (ks).mono ?_); rintro e1 W1 ⟨rfl, hb1⟩
    have HBE := Lib.hid (HBE0.out.trans (hb1.mono HBE0.out.size))
    clear ks hb1 d0 d1 d2
    have HTA := Lib.hid (awake_any W1 (HT.out.1.be HBE.out) (HT.out.2.be HBE.out))
    go_wp2_with fail
    (with_reducible refine (HTA.out).mono ?_); rintro e1 W9 ⟨rfl, hb9⟩
    have hE := HBE.out.trans (hb9.mono HBE.out.size)
    go_wp2_with fail
    go_ret
    exact ⟨rfl, hE⟩
end Go.Proofs.YtofedloikbmidaaGreatDoor.BuM
