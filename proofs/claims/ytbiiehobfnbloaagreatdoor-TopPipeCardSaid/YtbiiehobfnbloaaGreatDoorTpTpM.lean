import Derived.Test.YtbiiehobfnbloaaGreatDoorTpFrG
namespace Go.Proofs.YtbiiehobfnbloaaGreatDoor.TpM
open Go Go.RowKit Q Mem Rg Ap St CrB Ints Tab TbM FrA FrB LaA LaH BuJ FrG
def fewT (K : Int) (l : List Int) : Bool := sureL l && decide (l.length ≤ 8 ∧ 0 < l.length ∧ 0 ≤ K ∧ K ≤ 64)
set_option maxRecDepth 100000
set_option maxHeartbeats 1600000 in
theorem few_any (K : Int) (a : Option Addr) (n c : Nat) (l : List Int) (w : World) (hn : l.length = n) (hl : n ≤ 9223372036854775807) (hL : Ints w a l) :
   Calls Tryz.prog 9 #[.slice a n c, .int .i64 K] w fun e w' => e = .returned (.bool (fewT K l)) ∧ w = w' := by
 obtain ⟨R, hR⟩ : ∃ R : Ending → World → Prop, R = (fun e w' => e = .returned (.bool (fewT K l)) ∧ w = w') := ⟨_, rfl⟩
 rw [← hR]
 have HR := Lib.hid hR
 have HN := Lib.hid hn
 have HL := Lib.hid hL
 have s0 : (n : Int) ≤ 9223372036854775807 := by omega
 clear hR hn hL hl
 go_enter Tryz.func9, Tryz.ntmps9
 go_wp2_with fail
 go_loop [5] (fun iv => ∃ k : Nat, k ≤ n ∧ iv = .int .i64 k ∧ Hid (∀ x ∈ l.take k, 0 ≤ x ∧ x ≤ 1000)) (fun iv => n - (intOf iv).toNat)
 case atStart => exact ⟨0, by omega, rfl, Lib.hid (by simp)⟩
 case round =>
   obtain ⟨k, hk, rfl, HK⟩ := hrel
   have k0 : (0 : Int) ≤ (k : Int) := Int.natCast_nonneg _
   by_cases hkn : k < n
   · have t0 : decide ((k : Int) < (n : Int)) = true := decide_eq_true (by omega)
     have t0' : decide (k < n) = true := decide_eq_true hkn
     obtain ⟨z, hz⟩ : ∃ z, l[k]? = some z := ⟨_, List.getElem?_eq_getElem (by rw [HN.out]; exact hkn)⟩
     obtain ⟨b, o, rfl, hlt, hc⟩ := HL.out k z hz
     have k1 : (k : Int) < (n : Int) := by omega
     have HZ := Lib.hid hz
     clear hz
     by_cases hx : 0 ≤ z ∧ z ≤ 1000
     · have t1 : decide (z < 0) = false := decide_eq_false (by omega)
       have t2 : decide ((1000 : Int) < z) = false := decide_eq_false (by omega)
       have HX := Lib.hid hx
       clear hx
       go_wp2_with fail
       go_round
       case rel => exact ⟨k + 1, by omega, by go_num, Lib.hid (by
         intro x hx
         rw [List.take_add_one, HZ.out, Option.toList_some, List.mem_append, List.mem_singleton] at hx
         rcases hx with hx | rfl
         · exact HK.out x hx
         · exact HX.out)⟩
       case measure => simp [intOf]; omega
     · have HF := Lib.hid (show fewT K l = false from by
         have : sureL l = false := decide_eq_false (fun h => hx (h z (List.mem_of_getElem? HZ.out)))
         unfold fewT
         rw [this, Bool.false_and])
       by_cases h0 : z < 0
       · have t1 : decide (z < 0) = true := decide_eq_true h0
         clear hx h0
         go_wp2_with fail
         rw [HR.out, HF.out]
         exact ⟨rfl, rfl⟩
       · have t1 : decide (z < 0) = false := decide_eq_false h0
         have t2 : decide ((1000 : Int) < z) = true := decide_eq_true (by omega)
         clear hx h0
         go_wp2_with fail
         rw [HR.out, HF.out]
         exact ⟨rfl, rfl⟩
   · obtain rfl : k = n := by omega
     have t0 : decide ((k : Int) < (k : Int)) = false := decide_eq_false (by omega)
     have t0' : decide (k < k) = false := decide_eq_false (by omega)
     have hall : sureL l = true := decide_eq_true (fun x hx => HK.out x (by rw [List.take_of_length_le (by rw [HN.out]; exact Nat.le_refl _)]; exact hx))
     have HF := Lib.hid (show fewT K l = decide (k ≤ 8 ∧ 0 < k ∧ 0 ≤ K ∧ K ≤ 64) from by unfold fewT; rw [hall, Bool.true_and, HN.out])
     clear hall HK HL
     by_cases h1 : k ≤ 8
     · have t1 : decide ((k : Int) ≤ 8) = true := decide_eq_true (by omega)
       by_cases h2 : 0 < k
       · have t2 : decide ((0 : Int) < (k : Int)) = true := decide_eq_true (by omega)
         have t2' : decide (0 < k) = true := decide_eq_true h2
         by_cases h3 : 0 ≤ K
         · have t3 : decide (0 ≤ K) = true := decide_eq_true h3
           by_cases h4 : K ≤ 64
           · have t4 : decide (K ≤ 64) = true := decide_eq_true h4
             have HZ : Hid (fewT K l = true) := Lib.hid (by
               rw [HF.out]
               first
                 | exact decide_eq_true (by omega)
                 | exact decide_eq_false (by omega))
             go_wp2_with fail
             rw [HR.out, HZ.out]
             exact ⟨rfl, rfl⟩
           · have t4 : decide (K ≤ 64) = false := decide_eq_false h4
             have HZ : Hid (fewT K l = false) := Lib.hid (by
               rw [HF.out]
               first
                 | exact decide_eq_true (by omega)
                 | exact decide_eq_false (by omega))
             go_wp2_with fail
             rw [HR.out, HZ.out]
             exact ⟨rfl, rfl⟩
         · have t3 : decide (0 ≤ K) = false := decide_eq_false h3
           have HZ : Hid (fewT K l = false) := Lib.hid (by
             rw [HF.out]
             first
               | exact decide_eq_true (by omega)
               | exact decide_eq_false (by omega))
           go_wp2_with fail
           rw [HR.out, HZ.out]
           exact ⟨rfl, rfl⟩
       · have t2 : decide ((0 : Int) < (k : Int)) = false := decide_eq_false (by omega)
         have t2' : decide (0 < k) = false := decide_eq_false h2
         have HZ : Hid (fewT K l = false) := Lib.hid (by
           rw [HF.out]
           first
             | exact decide_eq_true (by omega)
             | exact decide_eq_false (by omega))
         go_wp2_with fail
         rw [HR.out, HZ.out]
         exact ⟨rfl, rfl⟩
     · have t1 : decide ((k : Int) ≤ 8) = false := decide_eq_false (by omega)
       have HZ : Hid (fewT K l = false) := Lib.hid (by
         rw [HF.out]
         first
           | exact decide_eq_true (by omega)
           | exact decide_eq_false (by omega))
       go_wp2_with fail
       rw [HR.out, HZ.out]
       exact ⟨rfl, rfl⟩
structure MadeIn (K : Int) (D : List ByteArray) (w : World) (e : Ending) (w' : World) : Prop where
 ok : ∃ (k gf gr : Nat) (v : Value), K = (k : Int) ∧ k ≤ 64 ∧ e = .returned (.tuple #[.pointer (some ⟨gf, 0, none⟩), .bool true]) ∧ FrIn w' w.heap.size gf gr v (frD 256 191 k D)
 be : Below w.heap.size w w'
set_option maxHeartbeats 3200000 in
theorem tmade_any (K : Int) (a : Option Addr) (n c : Nat) (l : List Int) (w : World) (hT : Tab 1 w) (hn : l.length = n) (hl : n ≤ 20) (hL : Ints w a l) (hs : ∀ x ∈ l, x ≤ 1000) (hK : 0 ≤ K ∧ K ≤ 64) :
   Calls Tryz.prog 11 #[.slice a n c, .int .i64 K] w fun e w' => MadeIn K (gramL 1 l) w e w' := by
 obtain ⟨Q, hQ⟩ : ∃ Q : Ending → World → Prop, Q = (fun e w' => MadeIn K (gramL 1 l) w e w') := ⟨_, rfl⟩
 rw [← hQ]
 have HR := Lib.hid hQ
 have HN := Lib.hid hn
 have hok : okC 256 191 K = true := by unfold okC; rw [show isSz 256 = true from by decide, decide_eq_true hK.1, decide_eq_true hK.2]; rfl
 have HA := Lib.hid (fun K0 : Nat => all_in (R := 256) (C := 191) (K := K0) (D := gramL 1 l) gramL_ok (Nat.le_trans (gramL_sum hs) (by rw [hn]; omega)))
 have HG := Lib.hid (fun (k : Nat) (z : Int) (h : l[k]? = some z) => gramL_get (n := 1) h)
 have HGL := Lib.hid (gramL_len 1 l)
 have HGM := Lib.hid (fun (z : Int) (k : Nat) => made_ok z (1 + k))
 obtain ⟨D, hD⟩ : ∃ D, gramL 1 l = D := ⟨_, rfl⟩
 rw [hD] at HA HG HGL HR
 have kf := FrA.new_any 256 191 K w hT
 simp only [hok, if_true] at kf
 have HL := Lib.hid hL
 clear hT hn hL hok hQ hs hD
 go_enter Tryz.func11, Tryz.ntmps11
 go_wp2_with fail
 (with_reducible refine (kf).mono ?_); rintro e1 W1 ⟨hb1, hf1⟩
 obtain ⟨R', C', K', gf, gr, eR, eC, eK, _, _, h8, h9, rfl, hF1⟩ := hf1.ok
 obtain rfl : R' = 256 := by omega
 obtain rfl : C' = 191 := by omega
 subst eK
 have HC := Lib.hid h9
 have HF0 := Lib.hid (show ∃ v, FrIn W1 w.heap.size gf gr v (frD 256 191 K' (D.take 0)) from ⟨_, hF1⟩)
 clear kf hf1 eR eC hF1
 go_wp2_with fail
 go_loopw [8] (fun iv W => ∃ k : Nat, k ≤ n ∧ iv = .int .i64 k ∧ Hid (∃ v, FrIn W w.heap.size gf gr v (frD 256 191 K' (D.take k))) ∧ Below w.heap.size w W) (fun iv _ => n - (intOf iv).toNat)
 case atStart => exact ⟨0, by omega, rfl, HF0, hb1⟩
 case round =>
   clear HF0 hb1
   obtain ⟨k, hk, rfl, HFT, hbV⟩ := hrel
   have k0 : (0 : Int) ≤ (k : Int) := Int.natCast_nonneg _
   by_cases hkn : k < n
   · have t0 : decide ((k : Int) < (n : Int)) = true := decide_eq_true (by omega)
     have t0' : decide (k < n) = true := decide_eq_true hkn
     obtain ⟨z, hz⟩ : ∃ z, l[k]? = some z := ⟨_, List.getElem?_eq_getElem (by rw [HN.out]; exact hkn)⟩
     obtain ⟨b, o, rfl, hlt, hc⟩ := (HL.out.below (Nat.le_refl _) hbV) k z hz
     have hd := HG.out k z hz
     have hE0 := (HA.out K' k (by rw [HGL.out, HN.out]; omega)).2 _ hd
     have HS : Hid (frD 256 191 K' (D.take (k + 1)) = addS (frD 256 191 K' (D.take k)) (madeD z (1 + k))) := Lib.hid (by rw [List.take_add_one, hd]; exact frD_snoc _ _ _ _ _)
     have k1 : (k : Int) < (n : Int) := by omega
     have k2 : (k : Int) < 20 := by omega
     have km : ∀ V, Calls Tryz.prog 55 #[.int .i64 z, .int .u8 ((k : Int) + 1)] V fun e w' => e = .returned (.string (madeD z (1 + k))) ∧ Below V.heap.size V w' := fun V => by
       have := made_any z (1 + k) V (by omega)
       rw [show ((1 + k : Nat) : Int) = (k : Int) + 1 by omega] at this
       exact this
     have HM := Lib.hid (HGM.out z k)
     clear hz hlt hd
     go_wp2_with fail
     (with_reducible refine (km _).mono ?_); rintro e3 W3 ⟨rfl, hb3⟩
     obtain ⟨v, hft⟩ := HFT.out
     have HFT3 := Lib.hid (hft.below hb3)
     have hbV3 := hbV.trans (hb3.mono hbV.size)
     have ka := FrB.add_any W3 w.heap.size gf gr v (frD 256 191 K' (D.take k)) (madeD z (1 + k)) HFT3.out (frD_ok (by decide) (by decide) (by decide) _).ok (by rw [HM.out.2]; unfold madeK; omega)
     rw [← HS.out, hE0, if_pos rfl] at ka
     clear km hft hb3 HFT hbV hE0
     go_wp2_with fail
     (with_reducible refine (ka).mono ?_); rintro e4 W4 ⟨v', rfl, hf4, hfar, hk4⟩
     have hbV4 := hbV3.trans (hk4.be hbV3.size (fun i hi => (HFT3.out.ge i hi).1))
     have HFT4 := Lib.hid (show ∃ v, FrIn W4 w.heap.size gf gr v (frD 256 191 K' (D.take (k + 1))) from ⟨v', hf4⟩)
     clear ka hf4 hfar hk4 HFT3 hbV3
     go_wp2_with fail
     go_roundw
     case rel => exact ⟨k + 1, by omega, by go_num, HFT4, hbV4⟩
     case measure => simp [intOf]; omega
   · obtain rfl : k = n := by omega
     have t0 : decide ((k : Int) < (k : Int)) = false := decide_eq_false (by omega)
     have t0' : decide (k < k) = false := decide_eq_false (by omega)
     have HE := Lib.hid (show MadeIn K' D w (.returned (.tuple #[.pointer (some ⟨gf, 0, none⟩), .bool true])) wr from by
       obtain ⟨v, hft⟩ := HFT.out
       rw [List.take_of_length_le (by rw [HGL.out, HN.out]; exact Nat.le_refl _)] at hft
       exact ⟨⟨K', gf, gr, v, rfl, HC.out, rfl, hft⟩, hbV⟩)
     clear HFT hbV
     go_wp2_with fail
     rw [HR.out]
     exact HE.out
end Go.Proofs.YtbiiehobfnbloaaGreatDoor.TpM
