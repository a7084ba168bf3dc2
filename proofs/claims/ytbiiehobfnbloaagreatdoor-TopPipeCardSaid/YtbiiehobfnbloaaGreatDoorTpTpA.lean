import Derived.Test.YtbiiehobfnbloaaGreatDoorTpTpX
import Derived.Test.YtbiiehobfnbloaaGreatDoorTpTpW
namespace Go.Proofs.YtbiiehobfnbloaaGreatDoor.TpA
open Go Go.RowKit Q Mem Rg Ap St BiH CrB Ints Tab TbM TbO TbP TbT TbU TbV TbW PaA PaR PaP PaN PaK PkE PkY FrA FrB FrC LaA LaH LaQ BuE BuI BuJ BuL BuN BuO BuP BuS BuT BoP BoQ JnP JnR JnS JnA JnD JnE RdP FrG TpM TpP TpX TpW
theorem byJ_new {c : Nat} {S : List ByteArray} (h : ∀ s ∈ S, paE s = 0) {k : Nat} (hk : k < nP (S.map ByteArray.size)) : byJ (jnK 17 c S k) (str (byt 17 c S k)) = ⟨newO S k, 0, jnK 17 c S (k + 1)⟩ := by
 unfold byJ
 rw [if_neg (fun e => e (byt_dp (pid := 17) (by decide) c S k ((bst_of h).more k hk)).1), jn_new (by decide) c h hk]
theorem byJ_dup {c : Nat} {S : List ByteArray} (h : ∀ s ∈ S, paE s = 0) {k : Nat} (hk : k < nP (S.map ByteArray.size)) : byJ (jnK 17 c S (k + 1)) (str (byt 17 c S k)) = ⟨[], 0, jnK 17 c S (k + 1)⟩ := by
 unfold byJ
 rw [if_neg (fun e => e (byt_dp (pid := 17) (by decide) c S k ((bst_of h).more k hk)).1), jn_dup (by decide) c h hk]
theorem byJ_nil {c : Nat} {S : List ByteArray} (h : ∀ s ∈ S, paE s = 0) {k : Nat} (hk : k ≤ nP (S.map ByteArray.size)) : byJ (jnK 17 c S k) (str nilB) = ⟨[], 14, jnK 17 c S k⟩ := by
 unfold byJ
 rw [if_neg (fun e => e nil_dp.1), jn_nil (by decide) c h hk]
theorem out_flat {F : Fr} {Sm : Tb} {P : Nat → Prop} (h : OutOk F Sm P F.L) : flat (enPl Sm) (outAt Sm 0) = flat enPd F.L ∧ (outAt Sm 0).length = F.L.length := by
 rw [h.out, List.length_map]
 refine ⟨?_, rfl⟩
 unfold flat
 rw [List.flatMap_map, List.flatMap, List.flatMap]
 congr 1
 refine List.map_congr_left (fun x hx => ?_)
 show ([.int .i64 (x.1 : Int), .string (str (bytesL Sm x.1 x.2.size))] : List Value) = _
 rw [h.txt x hx, str_bl]
 rfl
set_option maxRecDepth 100000
set_option maxHeartbeats 6400000 in
theorem pipe_any (K : Int) (la ta : Option Addr) (ln lc tn tc : Nat) (l tw : List Int) (w : World) (hT : Tab 3 w) (hF : Tab 1 w) (hZ : Tab 2 w) (hW : Wid 0 w)
   (hln : l.length = ln) (hl : ln ≤ 9223372036854775807) (hL : Ints w la l) (htn : tw.length = tn) (ht : tn ≤ 9223372036854775807) (hTW : Ints w ta tw) :
   Calls Tryz.prog 3 #[.slice la ln lc, .int .i64 K, .slice ta tn tc] w fun e w' => e = .returned (.bool true) ∧ Below w.heap.size w w' := by
 have HT := Lib.hid (And.intro hT (And.intro hF (And.intro hZ hW)))
 have kw := few_any K la ln lc l w hln hl hL
 have HL := Lib.hid hL
 have HN := Lib.hid hln
 have HTW := Lib.hid hTW
 have HTN := Lib.hid htn
 have tn0 : (0 : Int) ≤ (tn : Int) := Int.natCast_nonneg _
 clear hT hF hZ hW hln hL hTW htn
 have HBE := Lib.hid (Below.refl w.heap.size w)
 by_cases hf : fewT K l = true
 case neg =>
   have hf' : fewT K l = false := by simpa using hf
   rw [hf'] at kw
   clear hf hf'
   go_enter Tryz.func3, Tryz.ntmps3
   go_wp2_with fail
   (with_reducible refine (kw).mono ?_); rintro e1 W1 ⟨rfl, rfl⟩
   clear kw
   have HTA := Lib.hid (awake_any w (HT.out.1.be HBE.out) (HT.out.2.1.be HBE.out))
   go_wp2_with fail
   (with_reducible refine (HTA.out).mono ?_); rintro e1 W9 ⟨rfl, hb9⟩
   have hE := HBE.out.trans (hb9.mono HBE.out.size)
   go_wp2_with fail
   go_ret
   exact ⟨rfl, hE⟩
 rw [hf] at kw
 by_cases h60 : tn ≤ 60
 case neg =>
   have t1 : decide ((60 : Int) < (tn : Int)) = true := decide_eq_true (by omega)
   have t1' : decide (60 < tn) = true := decide_eq_true (by omega)
   clear hf h60
   go_enter Tryz.func3, Tryz.ntmps3
   go_wp2_with fail
   (with_reducible refine (kw).mono ?_); rintro e1 W1 ⟨rfl, rfl⟩
   clear kw
   have HTA := Lib.hid (awake_any w (HT.out.1.be HBE.out) (HT.out.2.1.be HBE.out))
   go_wp2_with fail
   (with_reducible refine (HTA.out).mono ?_); rintro e1 W9 ⟨rfl, hb9⟩
   have hE := HBE.out.trans (hb9.mono HBE.out.size)
   go_wp2_with fail
   go_ret
   exact ⟨rfl, hE⟩
 have t1 : decide ((60 : Int) < (tn : Int)) = false := decide_eq_false (by omega)
 have t1' : decide (60 < tn) = false := decide_eq_false (by omega)
 unfold fewT sureL at hf
 simp only [Bool.and_eq_true, decide_eq_true_eq] at hf
 obtain ⟨hx, hl8, hl0, hK0, hK64⟩ := hf
 have km := tmade_any K la ln lc l w HT.out.2.1 HN.out (by have := HN.out; omega) HL.out (fun x h => (hx x h).2) ⟨hK0, hK64⟩
 have hA := fun k : Nat => (all_in (R := 256) (C := 191) (K := k) (D := gramL 1 l) gramL_ok (Nat.le_trans (gramL_sum (fun x h => (hx x h).2)) (by have : l.length * 1020 ≤ 8 * 1020 := Nat.mul_le_mul_right _ hl8; omega)) (gramL 1 l).length (Nat.le_refl _)).1
 simp only [List.take_length] at hA
 have hFS : ∀ k : Nat, k ≤ 64 → FrS (frD 256 191 k (gramL 1 l)) := fun k hk => frs_D (by decide) hk _ (by rw [gramL_len]; omega) (by
   have h1 := congrArg List.length (hA k).t
   rw [List.length_map, gramL_len] at h1
   omega)
 have hFL : ∀ k : Nat, (frD 256 191 k (gramL 1 l)).L.length ≤ 8 ∧ (frD 256 191 k (gramL 1 l)).K = k := fun k => ⟨by have := frD_len 256 191 k (gramL 1 l); rw [gramL_len] at this; omega, (frD_R 256 191 k (gramL 1 l)).2.2⟩
 have HFS := Lib.hid hFS
 have HFL := Lib.hid hFL
 obtain ⟨G, hG⟩ : ∃ G, gramL 1 l = G := ⟨_, rfl⟩
 rw [hG] at km HFS HFL
 clear hx hl8 hl0 hK0 hK64 hA hFS hFL hG HN HL hl
 go_enter Tryz.func3, Tryz.ntmps3
 go_wp2_with fail
 (with_reducible refine (kw).mono ?_); rintro e1 W1 ⟨rfl, rfl⟩
 clear kw
 go_wp2_with fail
 (with_reducible refine (km).mono ?_); rintro e1 W1 ⟨⟨fk, gf, gr, fv, rfl, hfk, rfl, hf⟩, hb1⟩
 have HFS2 := Lib.hid (HFS.out fk hfk)
 have HFL2 := Lib.hid (HFL.out fk)
 obtain ⟨F, hF⟩ : ∃ F, frD 256 191 fk G = F := ⟨_, rfl⟩
 rw [hF] at hf HFS2 HFL2
 have HB1 := Lib.hid hb1
 have HF1 := Lib.hid hf
 have kk := mk_call W1 w.heap.size gf gr fv F 5 (HT.out.1.be hb1) HT.out.1.lt hf HFS2.out (by decide)
 have hml := mkL_len F 5
 have HPA := Lib.hid (mk_all HFS2.out (mc := 5))
 have HSZ := Lib.hid (fun (i : Nat) (s : ByteArray) (h : (mkL F 5)[i]? = some s) => mk_sz HFS2.out h)
 have HMI := Lib.hid (fun (i : Nat) (s : ByteArray) (h : (mkL F 5)[i]? = some s) => h)
 obtain ⟨S, hS⟩ : ∃ S, mkL F 5 = S := ⟨_, rfl⟩
 have HS := Lib.hid hS
 rw [hS] at kk hml HPA HSZ
 have hN8 : S.length ≤ 72 := by have := HFL2.out; omega
 have hN1 : 1 ≤ S.length := by have := HFS2.out.n0; omega
 have HKN := Lib.hid (num_le hN8 (fun s hs => by obtain ⟨i, hi⟩ := List.mem_iff_getElem?.1 hs; exact HSZ.out i s hi))
 obtain ⟨N, hN⟩ : ∃ N, S.length = N := ⟨_, rfl⟩
 have HNN := Lib.hid hN
 rw [hN] at kk hml hN8 hN1
 have HML := Lib.hid hml
 obtain ⟨K0, hK0⟩ : ∃ K0, nP (S.map ByteArray.size) = K0 := ⟨_, rfl⟩
 have HNP := Lib.hid hK0
 rw [hK0] at HKN
 clear km hb1 hf hF hS hN hml HFS HFL HMI hK0
 go_wp2_with fail
 (with_reducible refine (kk).mono ?_); rintro e2 W2 ⟨mb, mo, mc, rfl, hsl, hf2, hk2, hmb, hcap⟩
 have hb12 := hk2.be (B := w.heap.size) HB1.out.size (fun i hi => (HF1.out.ge i hi).1)
 have HB2 := Lib.hid (HB1.out.trans hb12)
 have HF2 := Lib.hid hf2
 have HSL := Lib.hid hsl
 have kp := pack_call 17 9 9 K0 (some ⟨mb, mo, none⟩) N mc S W2 rfl HNP.out (by decide) (by decide) HNN.out (by omega) hcap hsl.s (fun s hs => by obtain ⟨i, hi⟩ := List.mem_iff_getElem?.1 hs; exact HSZ.out i s hi) HPA.out
 clear kk hsl hf2 hk2 hmb hcap hb12
 go_wp2_with fail
 (with_reducible refine (kp).mono ?_); rintro e3 W3 ⟨⟨ao, pcap, rfl, hsp⟩, hb3⟩
 have HB3 := Lib.hid (HB2.out.trans (hb3.mono HB2.out.size))
 have HSP := Lib.hid hsp
 have HSL3 := Lib.hid (HSL.out.below hb3)
 have HF3 := Lib.hid (HF2.out.below hb3)
 have kj := new_yes 17 W3 (by decide)
 clear kp hb3 hsp HSL HF2
 go_wp2_with fail
 (with_reducible refine (kj).mono ?_); rintro e4 W4 ⟨rfl, hj, hb4⟩
 have HB4 := Lib.hid (HB3.out.trans (hb4.mono HB3.out.size))
 have kb := bnew_yes 256 5 W4 (HT.out.2.2.1.be HB4.out) (by decide)
 have HJ4 := Lib.hid hj
 have H34 := Lib.hid hb4
 clear kj hj hb4
 go_wp2_with fail
 (with_reducible refine (kb).mono ?_); rintro e5 W5 ⟨hb5, R1, gg, gt, gr2, hR1, _, _, rfl, hga⟩
 obtain rfl : R1 = 256 := by omega
 have HGA := Lib.hid (TpW.ga_new hga)
 have HB5 := Lib.hid (HB4.out.trans (hb5.mono HB4.out.size))
 have H35 := Lib.hid (H34.out.trans (hb5.mono H34.out.size))
 have HJ5 := Lib.hid (HJ4.out.below hb5)
 have HG4 := Lib.hid (Blk.lt HJ4.out)
 have hK9 : K0 ≤ 400000 := by have := HKN.out; omega
 have hK9' : (K0 : Int) ≤ 400000 := by omega
 clear kb hb5 hga hR1 HJ4 H34
 go_wp2_with fail
 go_loopw [19, 18] (fun kv av W => ∃ k : Nat, k ≤ K0 ∧ kv = .int .i64 k ∧ av = .string (str (allK 17 9 S tw k)) ∧ Below W5.heap.size W5 W) (fun kv _ _ => K0 - (intOf kv).toNat)
 case atStart => exact ⟨0, by omega, rfl, rfl, Below.refl _ _⟩
 case round =>
   obtain ⟨k, hk, rfl, rfl, hbW⟩ := hrel
   have k0 : (0 : Int) ≤ (k : Int) := Int.natCast_nonneg _
   by_cases hkn : k < K0
   · have t3 : decide ((k : Int) < (K0 : Int)) = true := decide_eq_true (by omega)
     have t3' : decide (k < K0) = true := decide_eq_true hkn
     have k1 : (k : Int) < (K0 : Int) := by omega
     have H3W := Lib.hid (H35.out.trans (hbW.mono H35.out.size))
     obtain ⟨b0, o0, rfl, hlt, hc⟩ := (HSP.out.below (Nat.le_refl _) H3W.out) k (pkI 17 9 S k) (by unfold pks; rw [List.getElem?_map, List.getElem?_range hkn]; rfl)
     have hq : ∀ (i : Nat) (u : Value), (enPk (pkI 17 9 S k))[i]? = some u → wr.cell? ⟨b0, o0 + k * 5 + i, none⟩ = some u := fun i u h => by have := hc i u h; rwa [off_eq] at this
     have HOK := pkI_ok (pid := 17) (by decide) 9 S k ((bst_of HPA.out).more k (by rw [HNP.out]; exact hkn))
     have HBY : Hid (pkBy (pkI 17 9 S k) = byt 17 9 S k) := Lib.hid rfl
     have HWW := HT.out.2.2.2.be (HB5.out.trans (hbW.mono HB5.out.size))
     have ke := enc_pk (pkI 17 9 S k) wr HWW HOK
     have HAZ := Lib.hid (fun m => allI_len (pid := 17) (by decide) (c := 9) (tw := tw) (m := m) HPA.out HNP.out hkn (by rw [HTN.out]; exact h60) (by have := HKN.out; omega))
     have HA0 := Lib.hid (allI_zero 17 9 S tw k)
     have HAA := Lib.hid (allI_all (pid := 17) (c := 9) (S := S) (tw := tw) (k := k) HTN.out)
     have HAY := Lib.hid (fun (m : Nat) (x : Int) (h : tw[m]? = some x) => (And.intro (fun e => allI_yes (pid := 17) (c := 9) (S := S) (k := k) h e) (fun e => allI_no (pid := 17) (c := 9) (S := S) (k := k) h e)))
     have HKZ := Lib.hid (allK_len (pid := 17) (by decide) (c := 9) (tw := tw) HPA.out HNP.out (by rw [HTN.out]; exact h60) (by have := HKN.out; omega) k hk)
     obtain ⟨A0, hA0⟩ : ∃ A, allK 17 9 S tw k = A := ⟨_, rfl⟩
     obtain ⟨AI, hAI⟩ : ∃ A, allI 17 9 S tw k = A := ⟨_, rfl⟩
     obtain ⟨BT, hBT⟩ : ∃ A, byt 17 9 S k = A := ⟨_, rfl⟩
     obtain ⟨P, hP⟩ : ∃ P, pkI 17 9 S k = P := ⟨_, rfl⟩
     rw [hA0, hAI, hBT] at HA0
     rw [hAI] at HAA
     rw [hAI, hBT] at HAY HAZ
     rw [hA0] at HKZ
     rw [hP, hBT] at HBY
     rw [hP] at ke hq
     rw [hA0]
     rw [HBY.out] at ke
     have q0 : wr.cell? ⟨b0, o0 + k * 5, none⟩ = some (.int .i64 P.pid) := hq 0 _ rfl
     have q1 : wr.cell? ⟨b0, o0 + k * 5 + 1, none⟩ = some (.bool P.start) := hq 1 _ rfl
     have q2 : wr.cell? ⟨b0, o0 + k * 5 + 2, none⟩ = some (.int .i64 P.count) := hq 2 _ rfl
     have q3 : wr.cell? ⟨b0, o0 + k * 5 + 3, none⟩ = some (.bool false) := hq 3 _ rfl
     have q4 : wr.cell? ⟨b0, o0 + k * 5 + 4, none⟩ = some (.string P.body) := hq 4 _ rfl
     have ad : ∀ U : World, (Op.stringOp .add (str A0) (str BT)).run Tryz.prog U = .ok (.string (str (AI 0))) U := fun U => by
       have h1 := HKZ.out
       have h2 := (HAZ.out 0).2.1
       have := add_at (str A0) (str BT) (by rw [str_size, str_size]; omega) U
       rw [str_app', ← HA0.out] at this
       exact this
     have HBW := Lib.hid hbW
     clear hc hq hlt HOK HWW hA0 hAI hBT hP hbW
     go_wp2_with fail
     (with_reducible refine (ke).mono ?_); rintro e1 W6 ⟨rfl, hb6⟩
     have HB6 := Lib.hid (HBW.out.trans (hb6.mono HBW.out.size))
     clear ke q0 q1 q2 q3 q4 hb6
     go_wp2_with fail
     clear ad
     go_loopw [22, 18] (fun mv av W => ∃ m : Nat, m ≤ tn ∧ mv = .int .i64 m ∧ av = .string (str (AI m)) ∧ Below W5.heap.size W5 W) (fun mv _ _ => tn - (intOf mv).toNat)
     case atStart => exact ⟨0, by omega, rfl, rfl, HB6.out⟩
     case round =>
       obtain ⟨m, hm, rfl, rfl, hbM⟩ := hrel
       have m0 : (0 : Int) ≤ (m : Int) := Int.natCast_nonneg _
       by_cases hmn : m < tn
       · have t4 : decide ((m : Int) < (tn : Int)) = true := decide_eq_true (by omega)
         have t4' : decide (m < tn) = true := decide_eq_true hmn
         have m1 : (m : Int) < (tn : Int) := by omega
         obtain ⟨x, hx⟩ : ∃ x, tw[m]? = some x := ⟨_, List.getElem?_eq_getElem (by rw [HTN.out]; exact hmn)⟩
         obtain ⟨b1, o1, rfl, hlt, hc⟩ := (HTW.out.below (Nat.le_refl _) (HB5.out.trans (hbM.mono HB5.out.size))) m x hx
         have hay := HAY.out m x hx
         by_cases hxk : x = (k : Int)
         · have t5 : (x == (k : Int)) = true := beq_iff_eq.2 hxk
           have HAM := Lib.hid (hay.1 hxk)
           have kE := empty_any wr (HT.out.2.2.2.be (HB5.out.trans (hbM.mono HB5.out.size)))
           have hnil : pkBy nilPk = nilB := rfl
           rw [hnil] at kE
           obtain ⟨NB, hNB⟩ : ∃ B, nilB = B := ⟨_, rfl⟩
           have HZ := Lib.hid (HAZ.out m)
           rw [hNB] at kE HAM HZ
           have ad1 : ∀ U : World, (Op.stringOp .add (str (AI m)) (str BT)).run Tryz.prog U = .ok (.string (str (AI m ++ BT))) U := fun U => by
             have := add_at (str (AI m)) (str BT) (by rw [str_size, str_size]; have := HZ.out; omega) U
             rwa [str_app'] at this
           have ad2 : ∀ U : World, (Op.stringOp .add (str (AI m ++ BT)) (str NB)).run Tryz.prog U = .ok (.string (str (AI (m + 1)))) U := fun U => by
             have := add_at (str (AI m ++ BT)) (str NB) (by rw [str_size, str_size, List.length_append]; have := HZ.out; omega) U
             rwa [str_app', ← HAM.out] at this
           have HBM := Lib.hid hbM
           clear hx hay hxk hnil hNB hbM
           go_wp2_with fail
           (with_reducible refine (kE).mono ?_); rintro e1 W7 ⟨rfl, hb7⟩
           have hb8 := HBM.out.trans (hb7.mono HBM.out.size)
           clear kE hb7 hc hlt
           go_wp2_with fail
           go_roundw
           case rel => exact ⟨m + 1, by omega, by go_num, rfl, hb8⟩
           case measure => simp [intOf]; omega
         · have t5 : (x == (k : Int)) = false := beq_eq_false_iff_ne.2 hxk
           have HAM := Lib.hid (hay.2 hxk)
           clear hx hay hxk
           go_wp2_with fail
           go_roundw
           case rel => exact ⟨m + 1, by omega, by go_num, by rw [HAM.out], hbM⟩
           case measure => simp [intOf]; omega
       · obtain rfl : tn = m := by omega
         have t4 : decide ((tn : Int) < (tn : Int)) = false := decide_eq_false (by omega)
         have t4' : decide (tn < tn) = false := decide_eq_false (by omega)
         rw [HAA.out]
         go_wp2_with fail
         go_roundw
         case rel => exact ⟨k + 1, by omega, by go_num, rfl, hbM⟩
         case measure => simp [intOf]; omega
   · obtain rfl : K0 = k := by omega
     have t3 : decide ((K0 : Int) < (K0 : Int)) = false := decide_eq_false (by omega)
     have t3' : decide (K0 < K0) = false := decide_eq_false (by omega)
     have hb0 := bst_of HPA.out
     rw [HNP.out] at hb0
     obtain ⟨c1, c2, c3⟩ := cut_pcs (L := pcs 17 9 S tw K0) (pcs_len (by decide) hb0.more)
     have hpn := pcs_num 17 9 S tw K0
     have hM9 : (pcs 17 9 S tw K0).length ≤ 400000 * 121 := Nat.le_trans hpn (Nat.mul_le_mul hK9 (by rw [HTN.out]; omega))
     have hsq := sq_pcs (pid := 17) (c := 9) (S := S) (K := K0) tw K0 (Nat.le_refl _)
     have HPG := Lib.hid (fun (b : Bs) (h : b ∈ pcs 17 9 S tw K0) => pcs_len (pid := 17) (by decide) hb0.more b h)
     have kc : Calls Tryz.prog 18 #[.string (str (allK 17 9 S tw K0))] wr fun e W' => (∃ v, e = .returned (.tuple #[v, .string nob]) ∧ W'.ownsRow wr.heap.size 9 1 v ((pcs 17 9 S tw K0).map str).length (flat enS ((pcs 17 9 S tw K0).map str))) ∧ Below wr.heap.size wr W' :=
       (PkCut.cut_any (str (pcs 17 9 S tw K0).flatten) wr (by rw [c3]; omega)).mono (fun e W' h => by
         obtain ⟨v, h1, h2, h3⟩ := h
         rw [c1, flat_str, show (str (pcs 17 9 S tw K0).flatten).size / 188 = ((pcs 17 9 S tw K0).map str).length by rw [c3, List.length_map]; omega] at h2
         exact ⟨⟨v, by rw [h1, c2], h2⟩, h3⟩)
     obtain ⟨PC, hPC⟩ : ∃ PC, pcs 17 9 S tw K0 = PC := ⟨_, rfl⟩
     rw [hPC] at kc hM9 hsq HPG
     obtain ⟨M, hM⟩ : ∃ M, (PC.map str).length = M := ⟨_, rfl⟩
     have HPM : Hid (PC.length = M) := Lib.hid (by rw [← hM, List.length_map])
     rw [HPM.out] at hM9
     rw [hM] at kc
     have HSQ := Lib.hid hsq
     have HMM := Lib.hid hM
     have HBW := Lib.hid hbW
     have tn1 : ((nob : ByteArray).toList != []) = false := by rw [bne, tb_size]; rfl
     clear hb0 c1 c2 c3 hpn hPC hM hsq hbW
     go_wp2_with fail
     (with_reducible refine (kc).mono ?_); rintro e1 W6 ⟨⟨pv, rfl, hpv⟩, hb6⟩
     obtain ⟨pa, pcp, rfl⟩ := Ap.own_form hpv
     have hb56 := HBW.out.trans (hb6.mono HBW.out.size)
     have HPP := Lib.hid (show Pp W3 W6 W3.heap.size (jnK 17 9 S 0) W4.heap.size gg gt gr2 (.slice none 0 0) (emptyT 256) 5 0 wr.heap.size (.slice pa M pcp) (PC.map str) from
       ⟨HJ5.out.below hb56, HGA.out.below hb56, by rw [HMM.out]; exact hpv, H35.out.trans (hb56.mono H35.out.size), HG4.out, Nat.lt_of_lt_of_le (Blk.lt HJ5.out) HBW.out.size⟩)
     have HB6 := Lib.hid (HB5.out.trans (hb56.mono HB5.out.size))
     clear kc hpv hb6 hb56
     go_wp2_with fail
     obtain ⟨PB, hPB⟩ : ∃ PB, wr.heap.size = PB := ⟨_, rfl⟩
     rw [hPB] at HPP
     clear hPB
     have hM0 : (0 : Int) ≤ (M : Int) := Int.natCast_nonneg _
     have hM9' : (M : Int) ≤ 100000000 := by omega
     go_loopw [27, 25, 26] (fun iv tv ev W => ∃ (i k tk : Nat) (v : Value) (T : Tb), i ≤ M ∧ iv = .int .i64 i ∧ tv = .int .i64 tk ∧ ev = .bool (decide (tk = N)) ∧ Pp W3 W W3.heap.size (jnK 17 9 S k) W4.heap.size gg gt gr2 v T 5 tk PB (.slice pa M pcp) (PC.map str) ∧ Hid (Sq 17 9 S K0 k (PC.drop i) K0 ∧ k ≤ K0 ∧ tk = (outs S k).length ∧ KnS F T (fun q => q < tk) ∧ T.st.length ≤ 2 * tk ∧ tk ≤ N)) (fun iv _ _ _ => M - (intOf iv).toNat)
     case atStart => exact ⟨0, 0, 0, _, _, by omega, rfl, rfl, by rw [decide_eq_false (by omega)], HPP.out, Lib.hid ⟨HSQ.out, by omega, rfl, (kns_empty F).congr (fun q => ⟨False.elim, fun h => by omega⟩), by simp [emptyT], by omega⟩⟩
     case round =>
       clear HPP
       obtain ⟨i, k, tk, v, T, hi, rfl, rfl, rfl, hP, HI⟩ := hrel
       have i0 : (0 : Int) ≤ (i : Int) := Int.natCast_nonneg _
       have HBO := Lib.hid (HB3.out.trans (hP.old.mono HB3.out.size))
       by_cases hin : i < M
       · have t3 : decide ((i : Int) < (M : Int)) = true := decide_eq_true (by omega)
         have t3' : decide (i < M) = true := decide_eq_true hin
         have i1 : (i : Int) < (M : Int) := by omega
         obtain ⟨b, hb⟩ : ∃ b, PC[i]? = some b := ⟨_, List.getElem?_eq_getElem (by rw [HPM.out]; exact hin)⟩
         obtain ⟨pb, po, rfl, hlt, hc⟩ := (own_seq (en := enS) enS_one (show wr.ownsRow PB 9 1 (.slice pa M pcp) M (flat enS (PC.map str)) from by have := hP.pc; rwa [HMM.out] at this) HMM.out) i (str b) (by rw [List.getElem?_map, hb]; rfl)
         have c0 : wr.cell? ⟨pb, po + i, none⟩ = some (.string (str b)) := hc 0 _ rfl
         have hbl := HPG.out b (List.mem_of_getElem? hb)
         have hji := jn_is (pid := 17) (by decide) 9 HPA.out (k := k) (by rw [HNP.out]; exact HI.out.2.1)
         have kb := bytes_any wr W3.heap.size (jnK 17 9 S k) (str b) hP.jn (HT.out.2.2.2.be HBO.out) (by rw [str_size]; omega) (by omega) (jn_cnt (pid := 17) (by decide) 9 HPA.out (by rw [HNP.out]; exact HI.out.2.1)) (by omega)
         have hsq := HI.out.1
         rw [drop_at hb] at hsq
         clear hlt hc hbl hji
         rcases hsq with ⟨hk1, hbe, hsq⟩ | ⟨⟨q, hq1, hq2, hbe⟩, hsq⟩ | ⟨hbe, hsq⟩
         · have hfd := byJ_new (c := 9) HPA.out (k := k) (by rw [HNP.out]; exact hk1)
           rw [← hbe] at hfd
           have HSQ2 := Lib.hid hsq
           have HK1 := Lib.hid hk1
           have hpre := outs_pre (S := S) HPA.out (k + 1) (fun j hj => (bst_of HPA.out).more j (by rw [HNP.out]; omega))
           have hsu := outs_succ S k
           obtain ⟨O, hO⟩ : ∃ O, newO S k = O := ⟨_, rfl⟩
           rw [hO] at hfd hsu
           obtain ⟨ON, hON⟩ : ∃ n, O.length = n := ⟨_, rfl⟩
           have HOL : Hid ((outs S (k + 1)).length = tk + ON) := Lib.hid (by rw [hsu, List.length_append, hON]; have := HI.out.2.2.1; omega)
           have HSO : Hid (∀ (m : Nat) (x : ByteArray), O[m]? = some x → S[tk + m]? = some x ∧ tk + m < N) := Lib.hid (fun m x hx => by
             obtain ⟨t, ht⟩ := hpre
             have h1 := HI.out.2.2.1
             have h2 : S[tk + m]? = some x := by
               rw [ht, hsu, h1, List.append_assoc, List.getElem?_append_right (by omega), show (outs S k).length + m - (outs S k).length = m by omega, List.getElem?_append_left (List.getElem?_eq_some_iff.1 hx).1]
               exact hx
             exact ⟨h2, by rw [← HNN.out]; exact (List.getElem?_eq_some_iff.1 h2).1⟩)
           have HON := Lib.hid hON
           have hON9 : ON ≤ 100 := by
             obtain ⟨t, ht⟩ := hpre
             have h1 := congrArg List.length ht
             rw [List.length_append, HOL.out, HNN.out] at h1
             omega
           have HFD : Hid (byJ (jnK 17 9 S k) (str b) = ⟨O, 0, jnK 17 9 S (k + 1)⟩) := Lib.hid hfd
           rw [HFD.out] at kb
           obtain ⟨Wc, hWc⟩ : ∃ Wc, wr.heap.size = Wc := ⟨_, rfl⟩
           clear hb hbe hsq hk1 hpre hsu hO hON hfd
           go_wp2_with fail
           (with_reducible refine (kb).mono ?_); rintro e1 W6 ⟨⟨v6, rfl, ho⟩, hj⟩
           dsimp only at ho
           rw [HON.out] at ho
           obtain ⟨oa, oc, rfl⟩ := Ap.own_form ho
           rw [hWc] at ho
           have HP2 := Lib.hid (hP.jstep hj)
           have HOW := Lib.hid ho
           have on0 : (0 : Int) ≤ (ON : Int) := Int.natCast_nonneg _
           have on9 : (ON : Int) ≤ 100 := by omega
           clear kb ho hj hP hWc
           go_wp2_with fail
           go_loopw [30, 25, 26] (fun mv tv ev W => ∃ (m q : Nat) (v : Value) (T : Tb), m ≤ ON ∧ q = tk + m ∧ mv = .int .i64 m ∧ tv = .int .i64 q ∧ ev = .bool (decide (q = N)) ∧ Pp W3 W W3.heap.size (jnK 17 9 S (k + 1)) W4.heap.size gg gt gr2 v T 5 q PB (.slice (some ⟨pb, po, none⟩) M pcp) (PC.map str) ∧ W.ownsRow Wc 9 1 (.slice oa ON oc) ON (flat enS O) ∧ Hid (KnS F T (fun z => z < q) ∧ T.st.length ≤ 2 * q)) (fun mv _ _ _ => ON - (intOf mv).toNat)
           case atStart => exact ⟨0, tk, v, T, by omega, rfl, rfl, rfl, rfl, HP2.out, HOW.out, Lib.hid ⟨HI.out.2.2.2.1, HI.out.2.2.2.2.1⟩⟩
           case round =>
             clear HP2 HOW
             obtain ⟨m, q, v, T, hm, hqm, rfl, rfl, rfl, hP, ho, HT2⟩ := hrel
             have m0 : (0 : Int) ≤ (m : Int) := Int.natCast_nonneg _
             have q0 : (0 : Int) ≤ (q : Int) := Int.natCast_nonneg _
             have HQM := Lib.hid hqm
             by_cases hmn : m < ON
             · have t4 : decide ((m : Int) < (ON : Int)) = true := decide_eq_true (by omega)
               have t4' : decide (m < ON) = true := decide_eq_true hmn
               have m1 : (m : Int) < (ON : Int) := by omega
               obtain ⟨x, hx⟩ : ∃ x, O[m]? = some x := ⟨_, List.getElem?_eq_getElem (by rw [HON.out]; exact hmn)⟩
               obtain ⟨hsx, hqN⟩ := HSO.out m x hx
               rw [← hqm] at hsx hqN
               obtain ⟨ob, oo, rfl, hlt, hc⟩ := (own_seq (en := enS) enS_one ho HON.out) m x hx
               have c0 : wr.cell? ⟨ob, oo + m, none⟩ = some (.string x) := hc 0 _ rfl
               have y0 := fun pX => ((below_ext wr pX).cell (p := ⟨ob, oo + m, none⟩) hlt).trans c0
               obtain ⟨b1, o1, hbo, hlt1, hc1⟩ := (HSL3.out.s.below (Nat.le_refl _) hP.old) q x hsx
               injection hbo with hbo
               injection hbo with e1 e2
               subst e1 e2
               have c1 : wr.cell? ⟨mb, mo + q, none⟩ = some (.string x) := hc1 0 _ rfl
               have y1 := fun pX => ((below_ext wr pX).cell (p := ⟨mb, mo + q, none⟩) hlt1).trans c1
               have HCX := Lib.hid c0
               have t5 : decide ((N : Int) ≤ (q : Int)) = false := decide_eq_false (by omega)
               have t5' : decide (N ≤ q) = false := decide_eq_false (by omega)
               have q1 : (q : Int) < (N : Int) := by omega
               have t6 : (x.toList == x.toList) = true := beq_self_eq_true _
               have t7 : (x.toList != x.toList) = false := by simp
               have q9 : (q : Int) ≤ 72 := by omega
               rw [decide_eq_false (show ¬ q = N by omega)]
               have HXX := Lib.hid hsx
               have HQN := Lib.hid hqN
               have HPC := Lib.hid hP
               have HOC := Lib.hid ho
               clear hx hc hc1 hlt hlt1 c0 c1 hqm hsx hqN hP ho
               go_wp2_with fail
               refine Go.Proofs.YtbiiehobfnbloaaGreatDoor.Q.region_ext (by kernel_rfl) (by kernel_rfl) ?_
               repeat (go_big_quiet_step (fail))
               refine wpQuiet_nil ?_
               rintro w9 ⟨pq, rfl⟩
               have hb9 := below_ext wr pq
               have z0 := y0 pq
               have HP9 := Lib.hid (HPC.out.below hb9)
               have HO9 := Lib.hid (own_below HOC.out hb9)
               obtain ⟨W8, hW8⟩ : ∃ W, ext wr pq = W := ⟨_, rfl⟩
               rw [hW8] at HP9 HO9 z0
               rw [hW8]
               have hz := HSZ.out q x HXX.out
               have hB9 := HB3.out.trans (HP9.out.old.mono HB3.out.size)
               obtain ⟨s1, s2, s3⟩ := kns_step HFS2.out HT2.out.1 (by have := HT2.out.2; omega) (i := q) (s := x) (mc := 5) (by rw [HS.out]; exact HXX.out)
               obtain ⟨g1, g2, g3⟩ := gm_mk (T := T) HFS2.out (i := q) (s := x) (mc := 5) (by rw [HS.out]; exact HXX.out)
               have hR := HT2.out.1.1.R
               rw [hR] at g1 g3
               rw [← HML.out] at s2
               have hst := (tk_ok HT2.out.1.2 (by have := HT2.out.2; omega) (-1) x).2.1
               have kt := take_any W8 W4.heap.size gg gt gr2 v T 5 q x HP9.out.ga HT2.out.1.2 (by have := HT2.out.2; omega) hR (by omega) (by omega) (HT.out.1.be hB9)
               have kt2 : Calls Tryz.prog 20 #[.pointer (some ⟨gg, 0, none⟩), .string x] W8 fun e w' => ∃ v', e = .returned (.tuple #[.bool (decide (q + 1 = N)), .int .i64 0]) ∧ Pp W3 w' W3.heap.size (jnK 17 9 S (k + 1)) W4.heap.size gg gt gr2 v' (tkT T (-1) x) 5 (q + 1) PB (.slice (some ⟨pb, po, none⟩) M pcp) (PC.map str) ∧ w'.ownsRow Wc 9 1 (.slice (some ⟨ob, oo, none⟩) ON oc) ON (flat enS O) := kt.mono (fun e w' h => by
                 obtain ⟨v', h1, h2⟩ := h.ga
                 have he := h.e
                 rw [hR, g1, s1, g3, s2] at he
                 rw [g2, show tkN T.R 5 x q = q + 1 by unfold tkN; rw [hR, g1, s1, if_pos rfl]] at h1
                 exact ⟨v', he, HP9.out.tstep h1 h.k, FrA.own_kept HO9.out h.k (fun i hi => TpW.ga_off HP9.out.ga (TpW.tyb_own HO9.out hi) (by decide) (by decide) (by decide) (by decide))⟩)
               have HK2 := Lib.hid (s3.congr (Q := fun z => z < q + 1) (fun z => ⟨fun h => h.elim (fun h => by omega) (fun e => by omega), fun h => by by_cases e : z = q; exact Or.inr e; exact Or.inl (by omega)⟩))
               have HST2 : Hid ((tkT T (-1) x).st.length ≤ 2 * (q + 1)) := Lib.hid (by have := HT2.out.2; omega)
               clear kt hz hB9 s1 s2 s3 g1 g2 g3 hR hst y0 y1 hW8 hb9 t5 t5' t6 t7
               go_wp2_with fail
               (with_reducible refine (kt2).mono ?_); rintro e2 W7 ⟨v', rfl, hP7, hO7⟩
               clear kt2
               go_wp2_with fail
               go_roundw
               case rel => exact ⟨m + 1, q + 1, v', _, by omega, by have := HQM.out; omega, by go_num, by go_num, rfl, hP7, hO7, Lib.hid ⟨HK2.out, HST2.out⟩⟩
               case measure => simp [intOf]; omega
             · obtain rfl : ON = m := by omega
               have t4 : decide ((ON : Int) < (ON : Int)) = false := decide_eq_false (by omega)
               have t4' : decide (ON < ON) = false := decide_eq_false (by omega)
               have HI2 := Lib.hid (show Sq 17 9 S K0 (k + 1) (PC.drop (i + 1)) K0 ∧ k + 1 ≤ K0 ∧ q = (outs S (k + 1)).length ∧ KnS F T (fun z => z < q) ∧ T.st.length ≤ 2 * q ∧ q ≤ N from
                 ⟨HSQ2.out, HK1.out, by rw [HOL.out]; exact hqm, HT2.out.1, HT2.out.2, by
                   obtain ⟨t, ht⟩ := outs_pre (S := S) HPA.out (k + 1) (fun j hj => (bst_of HPA.out).more j (by rw [HNP.out]; have := HK1.out; omega))
                   have h1 := congrArg List.length ht
                   rw [List.length_append, HOL.out, HNN.out] at h1
                   omega⟩)
               clear ho hqm
               go_wp2_with fail
               go_roundw
               case rel => exact ⟨i + 1, k + 1, q, v, T, by omega, by go_num, rfl, rfl, hP, HI2⟩
               case measure => simp [intOf]; omega
         · have hfd := byJ_dup (c := 9) HPA.out (k := q) (by rw [HNP.out]; exact hq2)
           rw [← hbe, ← hq1] at hfd
           have HSQ2 := Lib.hid hsq
           clear hb hbe hsq hq1 hq2
           have HFD : Hid (byJ (jnK 17 9 S k) (str b) = ⟨[], 0, jnK 17 9 S k⟩) := Lib.hid hfd
           rw [HFD.out] at kb
           clear hfd
           go_wp2_with fail
           (with_reducible refine (kb).mono ?_); rintro e1 W6 ⟨⟨v6, rfl, ho⟩, hj⟩
           obtain ⟨oa, oc, rfl⟩ := Ap.own_form ho
           have HP2 := Lib.hid (hP.jstep hj)
           clear kb ho hj hP
           go_wp2_with fail
           go_loop [30, 25, 26] (fun iv tv ev => iv = .int .i64 0 ∧ tv = .int .i64 tk ∧ ev = .bool (decide (tk = N))) (fun _ _ _ => 0)
           case atStart => exact ⟨rfl, rfl, rfl⟩
           case round =>
             obtain ⟨rfl, rfl, rfl⟩ := hrel
             go_wp2_with fail
             go_roundw
             case rel => exact ⟨i + 1, k, tk, v, T, by omega, by go_num, rfl, rfl, HP2.out, Lib.hid ⟨HSQ2.out, HI.out.2⟩⟩
             case measure => simp [intOf]; omega
         · have hfd := byJ_nil (c := 9) HPA.out (k := k) (by rw [HNP.out]; exact HI.out.2.1)
           rw [← hbe] at hfd
           have HSQ2 := Lib.hid hsq
           clear hb hbe hsq
           have HFD : Hid (byJ (jnK 17 9 S k) (str b) = ⟨[], 14, jnK 17 9 S k⟩) := Lib.hid hfd
           rw [HFD.out] at kb
           clear hfd
           go_wp2_with fail
           (with_reducible refine (kb).mono ?_); rintro e1 W6 ⟨⟨v6, rfl, ho⟩, hj⟩
           obtain ⟨oa, oc, rfl⟩ := Ap.own_form ho
           have HP2 := Lib.hid (hP.jstep hj)
           clear kb ho hj hP
           go_wp2_with fail
           go_loop [30, 25, 26] (fun iv tv ev => iv = .int .i64 0 ∧ tv = .int .i64 tk ∧ ev = .bool (decide (tk = N))) (fun _ _ _ => 0)
           case atStart => exact ⟨rfl, rfl, rfl⟩
           case round =>
             obtain ⟨rfl, rfl, rfl⟩ := hrel
             go_wp2_with fail
             go_roundw
             case rel => exact ⟨i + 1, k, tk, v, T, by omega, by go_num, rfl, rfl, HP2.out, Lib.hid ⟨HSQ2.out, HI.out.2⟩⟩
             case measure => simp [intOf]; omega
       · obtain rfl : M = i := by omega
         have t3 : decide ((M : Int) < (M : Int)) = false := decide_eq_false (by omega)
         have t3' : decide (M < M) = false := decide_eq_false (by omega)
         have hd : PC.drop M = [] := List.drop_eq_nil_of_le (by rw [HPM.out]; exact Nat.le_refl _)
         have hk2 : k = K0 := by have := HI.out.1; rw [hd] at this; exact this
         obtain rfl : K0 = k := hk2.symm
         have htk : tk = N := by rw [HI.out.2.2.1, show outs S K0 = S from (by rw [← HNP.out]; exact outs_end HPA.out), HNN.out]
         obtain rfl : N = tk := htk.symm
         have hKT := HI.out.2.2.2.1
         have hcf := all_known HFS2.out hKT (fun i hi => by rw [← HML.out] at hi; exact hi)
         obtain ⟨Mo, hMO, hMF⟩ := mended_out HFS2.out hKT
         obtain rfl := hMF hcf
         have hR := hKT.1.R
         obtain ⟨of1, of2⟩ := out_flat hMO
         have ke := end_any wr W4.heap.size gg gt gr2 v T (rowC F) 5 N hP.ga hKT.2 (fun r hr => hKT.row HFS2.out r hr)
         obtain ⟨D, hD⟩ : ∃ D, F.L.length = D := ⟨_, rfl⟩
         rw [hD] at of2
         have HD := Lib.hid hD
         obtain ⟨cm, hcm⟩ : ∃ c, cntM T 256 = c := ⟨_, rfl⟩
         have ke2 : Calls Tryz.prog 21 #[.pointer (some ⟨gg, 0, none⟩)] wr fun e w' => ∃ oa oc, e = .returned (.tuple #[.slice oa D oc, .int .i64 (cm : Int), .int .i64 0]) ∧ w'.ownsRow wr.heap.size 58 2 (.slice oa D oc) D (flat enPd F.L) ∧ Pp W3 w' W3.heap.size (jnK 17 9 S K0) W4.heap.size gg gt gr2 (.slice none 0 0) (emptyT T.R) 5 0 PB (.slice pa M pcp) (PC.map str) := ke.mono (fun e w' h => by
           obtain ⟨o, h1, h2⟩ := h.out
           rw [hR] at h1 h2
           rw [of1, of2] at h2
           rw [hcm, hcf] at h1
           obtain ⟨oa, oc, rfl⟩ := Ap.own_form h2
           exact ⟨oa, oc, h1, h2, hP.tstep h.ga h.k⟩)
         have hD8 : D ≤ 8 := by have := HFL2.out.1; omega
         have D0 : (0 : Int) ≤ (D : Int) := Int.natCast_nonneg _
         rw [decide_eq_true (show N = N from rfl)]
         have HPO := Lib.hid hP.old
         clear ke hd hk2 htk hKT hcf hMO hMF hR of1 of2 hD hcm hP HI
         go_wp2_with fail
         (with_reducible refine (ke2).mono ?_); rintro e1 W7 ⟨oa, oc, rfl, ho7, hP7⟩
         have HP7 := Lib.hid hP7
         have HB7 := Lib.hid (HB3.out.trans (hP7.old.mono HB3.out.size))
         have HO7 := Lib.hid ho7
         have kp := placed_any W7 w.heap.size gf gr fv (parS F (64 - F.K)) (HF3.out.below hP7.old) (FrC.par_ok HFS2.out.mks.ok _)
         rw [(parS_same F (64 - F.K)).1, HD.out] at kp
         clear ke2 ho7 hP7
         go_wp2_with fail
         (with_reducible refine (kp).mono ?_); rintro e1 W8 ⟨hb8, vp, rfl, hpl⟩
         obtain ⟨va, vc, rfl⟩ := Ap.own_form hpl
         have HP8 := Lib.hid (HP7.out.below hb8)
         have HB8 := Lib.hid (HB7.out.trans (hb8.mono HB7.out.size))
         have HSO := Lib.hid (own_seq (en := enPd) enPd_len (own_below HO7.out hb8) HD.out)
         have HSP2 := Lib.hid (own_seq (en := enPd) enPd_len hpl HD.out)
         have kl := lost_any HP8.out.jn
         have hl0 := (jn_is (pid := 17) (by decide) 9 HPA.out (k := K0) (by rw [HNP.out]; exact Nat.le_refl _)).1
         rw [hl0] at kl
         have t4 : ((N : Int) != (N : Int)) = false := by simp
         have t5 : ((D : Int) != (D : Int)) = false := by simp
         clear kp hb8 hpl hl0 HO7
         go_wp2_with fail
         (with_reducible refine (kl).mono ?_); rintro e1 W9 ⟨rfl, rfl⟩
         clear kl t4 t5
         go_wp2_with fail
         go_loopw [37] (fun iv W => ∃ i : Nat, i ≤ D ∧ iv = .int .i64 i ∧ Below W8.heap.size W8 W) (fun iv _ => D - (intOf iv).toNat)
         case atStart => exact ⟨0, by omega, rfl, Below.refl _ _⟩
         case round =>
           obtain ⟨i, hi, rfl, hbe⟩ := hrel
           have i0 : (0 : Int) ≤ (i : Int) := Int.natCast_nonneg _
           by_cases hin : i < D
           · have t6 : decide ((i : Int) < (D : Int)) = true := decide_eq_true (by omega)
             have t6' : decide (i < D) = true := decide_eq_true hin
             have i1 : (i : Int) < (D : Int) := by omega
             obtain ⟨z, hz⟩ : ∃ z, F.L[i]? = some z := ⟨_, List.getElem?_eq_getElem (by rw [HD.out]; exact hin)⟩
             obtain ⟨b1, o1, rfl, hlt1, hc1⟩ := HSO.out i z hz
             obtain ⟨b2, o2, rfl, hlt2, hc2⟩ := HSP2.out i z hz
             rw [off_eq] at hc1 hc2
             have p1 := hc1 0 (.int .i64 (z.1 : Int)) rfl
             have p2 := hc1 1 (.string z.2) rfl
             have p3 := hc2 0 (.int .i64 (z.1 : Int)) rfl
             have p4 := hc2 1 (.string z.2) rfl
             have r1 := fun pX => (World.cell?_of_block (a := ⟨b1, o1 + i * 2, none⟩) ((hbe.trans ((below_ext wr pX).mono hbe.size)).block b1 hlt1)).trans p1
             have r2 := fun pX => (World.cell?_of_block (a := ⟨b1, o1 + i * 2 + 1, none⟩) ((hbe.trans ((below_ext wr pX).mono hbe.size)).block b1 hlt1)).trans p2
             have r3 := fun pX => (World.cell?_of_block (a := ⟨b2, o2 + i * 2, none⟩) ((hbe.trans ((below_ext wr pX).mono hbe.size)).block b2 hlt2)).trans p3
             have r4 := fun pX => (World.cell?_of_block (a := ⟨b2, o2 + i * 2 + 1, none⟩) ((hbe.trans ((below_ext wr pX).mono hbe.size)).block b2 hlt2)).trans p4
             have t7 : ((z.1 : Int) != (z.1 : Int)) = false := by simp
             have t8 : (z.2.toList == z.2.toList) = true := beq_self_eq_true _
             clear hc1 hc2 p1 p2 p3 p4 hlt1 hlt2 hz
             go_wp2_with fail
             refine Go.Proofs.YtbiiehobfnbloaaGreatDoor.Q.region_ext (by kernel_rfl) (by kernel_rfl) ?_
             repeat (go_big_quiet_step (fail))
             refine wpQuiet_nil ?_
             rintro w9 ⟨pq, rfl⟩
             have hbe9 := hbe.trans ((below_ext wr pq).mono hbe.size)
             clear r1 r2 r3 r4 hbe t7 t8
             go_wp2_with fail
             go_roundw
             case rel => exact ⟨i + 1, by omega, by go_num, hbe9⟩
             case measure => simp [intOf] <;> omega
           · obtain rfl : D = i := by omega
             have t6 : decide ((D : Int) < (D : Int)) = false := decide_eq_false (by omega)
             have t6' : decide (D < D) = false := decide_eq_false (by omega)
             have HBE := Lib.hid (HB8.out.trans (hbe.mono HB8.out.size))
             clear hbe
             have HTA := Lib.hid (awake_any wr (HT.out.1.be HBE.out) (HT.out.2.1.be HBE.out))
             go_wp2_with fail
             (with_reducible refine (HTA.out).mono ?_); rintro e1 W9 ⟨rfl, hb9⟩
             have hE := HBE.out.trans (hb9.mono HBE.out.size)
             go_wp2_with fail
             go_ret
             exact ⟨rfl, hE⟩
end Go.Proofs.YtbiiehobfnbloaaGreatDoor.TpA
