/- The law's sure, filled: which frames are asked of, and the frame. -/
import Derived.Test.YthgcmlhmhojjhaaGreatDoorBuG
namespace Go.Proofs.YthgcmlhmhojjhaaGreatDoor.BuJ
open Go Go.RowKit Go.Proofs.YthgcmlhmhojjhaaGreatDoor.Q Go.Proofs.YthgcmlhmhojjhaaGreatDoor.Mem Go.Proofs.YthgcmlhmhojjhaaGreatDoor.Rg Go.Proofs.YthgcmlhmhojjhaaGreatDoor.Ap Go.Proofs.YthgcmlhmhojjhaaGreatDoor.St Go.Proofs.YthgcmlhmhojjhaaGreatDoor.CrB Go.Proofs.YthgcmlhmhojjhaaGreatDoor.Ints Go.Proofs.YthgcmlhmhojjhaaGreatDoor.Tab Go.Proofs.YthgcmlhmhojjhaaGreatDoor.TbM Go.Proofs.YthgcmlhmhojjhaaGreatDoor.FrA Go.Proofs.YthgcmlhmhojjhaaGreatDoor.FrB Go.Proofs.YthgcmlhmhojjhaaGreatDoor.LaA Go.Proofs.YthgcmlhmhojjhaaGreatDoor.LaH Go.Proofs.YthgcmlhmhojjhaaGreatDoor.BuG

def sureL (l : List Int) : Bool := decide (∀ x ∈ l, 0 ≤ x ∧ x ≤ 1000)
def sureB (R C K : Int) (l : List Int) : Bool := sureL l && (okC R C K && (decide (R = 256) && decide (l.length ≤ 20)))
set_option maxRecDepth 100000
set_option maxHeartbeats 1600000 in
theorem sure_any (R C K : Int) (a : Option Addr) (n c : Nat) (l : List Int) (w : World) (hT : Tab 1 w) (hn : l.length = n) (hl : n ≤ 9223372036854775807) (hL : Ints w a l) :
    Calls Tryz.prog 14 #[.agg #[.int .i64 R, .int .i64 C, .int .i64 K], .slice a n c] w fun e w' => e = .returned (.bool (sureB R C K l)) ∧ Below w.heap.size w w' := by
  have HT := Lib.hid hT
  have HN := Lib.hid hn
  have HL := Lib.hid hL
  have s0 : (n : Int) ≤ 9223372036854775807 := by omega
  have HBE := Lib.hid ((Below.refl w.heap.size w).alloc (Nat.le_refl _) (.cells #[.int .i64 R, .int .i64 C, .int .i64 K] 31))
  have hbk := Blk.new w 31 #[.int .i64 R, .int .i64 C, .int .i64 K]
  have d0 := Blk.cell (hbk) 0 (v := .int .i64 R) rfl
  have d1 := Blk.cell (hbk) 1 (v := .int .i64 C) rfl
  have d2 := Blk.cell (hbk) 2 (v := .int .i64 K) rfl
  have kc := check_any R C K (w.alloc (.cells #[.int .i64 R, .int .i64 C, .int .i64 K] 31)) (HT.out.be HBE.out)
  have HBK := Lib.hid hbk
  clear hT hn hL hl hbk
  go_enter Tryz.func14, Tryz.ntmps14
  go_wp2_with fail
  go_loop [5] (fun iv => ∃ k : Nat, k ≤ n ∧ iv = .int .i64 k ∧ Hid (∀ x ∈ l.take k, 0 ≤ x ∧ x ≤ 1000)) (fun iv => n - (intOf iv).toNat)
  case atStart => exact ⟨0, by omega, rfl, Lib.hid (by simp)⟩
  case round =>
    obtain ⟨k, hk, rfl, HK⟩ := hrel
    have k0 : (0 : Int) ≤ (k : Int) := Int.natCast_nonneg _
    by_cases hkn : k < n
    · have t0 : decide ((k : Int) < (n : Int)) = true := decide_eq_true (by omega)
      have t0' : decide (k < n) = true := decide_eq_true hkn
      obtain ⟨z, hz⟩ : ∃ z, l[k]? = some z := ⟨_, List.getElem?_eq_getElem (by rw [HN.out]; exact hkn)⟩
      obtain ⟨b, o, rfl, hlt, hc⟩ := (HL.out.below (Nat.le_refl _) HBE.out) k z hz
      have k1 : (k : Int) < (n : Int) := by omega
      have HZ := Lib.hid hz
      clear hz
      by_cases hx : 0 ≤ z ∧ z ≤ 1000
      · have t1 : decide (z < 0) = false := decide_eq_false (by omega)
        have t2 : decide ((1000 : Int) < z) = false := decide_eq_false (by omega)
        have HX := Lib.hid hx
        clear hx kc
        go_wp2_with fail
        go_round
        case rel => exact ⟨k + 1, by omega, by go_num, Lib.hid (by
          intro x hx
          rw [List.take_add_one, HZ.out, Option.toList_some, List.mem_append, List.mem_singleton] at hx
          rcases hx with hx | rfl
          · exact HK.out x hx
          · exact HX.out)⟩
        case measure => simp [intOf]; omega
      · have HF := Lib.hid (show sureB R C K l = false from by
          have : sureL l = false := decide_eq_false (fun h => hx (h z (List.mem_of_getElem? HZ.out)))
          unfold sureB
          rw [this, Bool.false_and])
        by_cases h0 : z < 0
        · have t1 : decide (z < 0) = true := decide_eq_true h0
          clear hx h0 kc
          go_wp2_with fail
          go_ret
          exact ⟨by rw [HF.out]; rfl, HBE.out⟩
        · have t1 : decide (z < 0) = false := decide_eq_false h0
          have t2 : decide ((1000 : Int) < z) = true := decide_eq_true (by omega)
          clear hx h0 kc
          go_wp2_with fail
          go_ret
          exact ⟨by rw [HF.out]; rfl, HBE.out⟩
    · obtain rfl : k = n := by omega
      have t0 : decide ((k : Int) < (k : Int)) = false := decide_eq_false (by omega)
      have t0' : decide (k < k) = false := decide_eq_false (by omega)
      have hall : sureL l = true := decide_eq_true (fun x hx => HK.out x (by rw [List.take_of_length_le (by rw [HN.out]; exact Nat.le_refl _)]; exact hx))
      have HF := Lib.hid (show sureB R C K l = (okC R C K && (decide (R = 256) && decide (k ≤ 20))) from by unfold sureB; rw [hall, Bool.true_and, HN.out])
      obtain ⟨z, hz⟩ : ∃ z, okC R C K = z := ⟨_, rfl⟩
      rw [hz] at kc HF
      rw [← HN.out] at s0
      clear hz hall HK HL
      cases z with
      | false =>
        rw [if_neg (by decide)] at kc
        have HZ := Lib.hid (show (false && (decide (R = 256) && decide (k ≤ 20))) = false from rfl)
        go_wp2_with fail
        (with_reducible refine (kc).mono ?_); rintro e1 W1 ⟨rfl, hb1⟩
        have hb9 := HBE.out.trans (hb1.mono HBE.out.size)
        have hB4 := Blk.below HBK.out hb1 HBK.out.lt
        have e0 := Blk.cell (hB4) 0 (v := .int .i64 R) rfl
        have e1 := Blk.cell (hB4) 1 (v := .int .i64 C) rfl
        have e2 := Blk.cell (hB4) 2 (v := .int .i64 K) rfl
        clear kc hB4 hb1
        go_wp2_with fail
        go_ret
        exact ⟨by rw [HF.out, HZ.out]; rfl, hb9⟩
      | true =>
        rw [if_pos rfl] at kc
        by_cases h1 : R = 256
        · have t1 : (R == 256) = true := by simpa using h1
          by_cases h2 : k ≤ 20
          · have t2 : decide ((k : Int) ≤ 20) = true := decide_eq_true (by omega)
            have HZ := Lib.hid (show (true && (decide (R = 256) && decide (k ≤ 20))) = true by simp [h1, h2])
            clear h1 h2
            go_wp2_with fail
            (with_reducible refine (kc).mono ?_); rintro e1 W1 ⟨rfl, hb1⟩
            have hb9 := HBE.out.trans (hb1.mono HBE.out.size)
            have hB4 := Blk.below HBK.out hb1 HBK.out.lt
            have e0 := Blk.cell (hB4) 0 (v := .int .i64 R) rfl
            have e1 := Blk.cell (hB4) 1 (v := .int .i64 C) rfl
            have e2 := Blk.cell (hB4) 2 (v := .int .i64 K) rfl
            clear kc hB4 hb1
            go_wp2_with fail
            go_ret
            exact ⟨by rw [HF.out, HZ.out]; rfl, hb9⟩
          · have t2 : decide ((k : Int) ≤ 20) = false := decide_eq_false (by omega)
            have HZ := Lib.hid (show (true && (decide (R = 256) && decide (k ≤ 20))) = false by simp [h2])
            clear h1 h2
            go_wp2_with fail
            (with_reducible refine (kc).mono ?_); rintro e1 W1 ⟨rfl, hb1⟩
            have hb9 := HBE.out.trans (hb1.mono HBE.out.size)
            have hB4 := Blk.below HBK.out hb1 HBK.out.lt
            have e0 := Blk.cell (hB4) 0 (v := .int .i64 R) rfl
            have e1 := Blk.cell (hB4) 1 (v := .int .i64 C) rfl
            have e2 := Blk.cell (hB4) 2 (v := .int .i64 K) rfl
            clear kc hB4 hb1
            go_wp2_with fail
            go_ret
            exact ⟨by rw [HF.out, HZ.out]; rfl, hb9⟩
        · have t1 : (R == 256) = false := by simpa using h1
          have HZ := Lib.hid (show (true && (decide (R = 256) && decide (k ≤ 20))) = false by simp [h1])
          clear h1
          go_wp2_with fail
          (with_reducible refine (kc).mono ?_); rintro e1 W1 ⟨rfl, hb1⟩
          have hb9 := HBE.out.trans (hb1.mono HBE.out.size)
          have hB4 := Blk.below HBK.out hb1 HBK.out.lt
          have e0 := Blk.cell (hB4) 0 (v := .int .i64 R) rfl
          have e1 := Blk.cell (hB4) 1 (v := .int .i64 C) rfl
          have e2 := Blk.cell (hB4) 2 (v := .int .i64 K) rfl
          clear kc hB4 hb1
          go_wp2_with fail
          go_ret
          exact ⟨by rw [HF.out, HZ.out]; rfl, hb9⟩
/-- the frame -/
structure FillIn (R C K : Int) (l : List Int) (w : World) (e : Ending) (w' : World) : Prop where
  ok : ∃ (c k gf gr : Nat) (v : Value), C = (c : Int) ∧ K = (k : Int) ∧ c ≤ 191 ∧ k ≤ 64 ∧ e = .returned (.pointer (some ⟨gf, 0, none⟩)) ∧ FrIn w' w.heap.size gf gr v (frK 256 c k l l.length)
  be : Below w.heap.size w w'
set_option maxHeartbeats 3200000 in
theorem filled_any (R C K : Int) (a : Option Addr) (n c : Nat) (l : List Int) (w : World) (hT : Tab 1 w) (hn : l.length = n) (hl : n ≤ 20) (hL : Ints w a l) (hok : okC R C K = true) (hR : R = 256) :
    Calls Tryz.prog 9 #[.agg #[.int .i64 R, .int .i64 C, .int .i64 K], .slice a n c] w fun e w' => FillIn R C K l w e w' := by
  subst hR
  obtain ⟨Q, hQ⟩ : ∃ Q : Ending → World → Prop, Q = (fun e w' => FillIn 256 C K l w e w') := ⟨_, rfl⟩
  rw [← hQ]
  have HR := Lib.hid hQ
  have HN := Lib.hid hn
  have hbk := Blk.new w 31 #[.int .i64 256, .int .i64 C, .int .i64 K]
  have hbe := (Below.refl _ w).alloc (Nat.le_refl _) (.cells #[.int .i64 256, .int .i64 C, .int .i64 K] 31)
  have d0 := Blk.cell (hbk) 0 (v := .int .i64 256) rfl
  have d1 := Blk.cell (hbk) 1 (v := .int .i64 C) rfl
  have d2 := Blk.cell (hbk) 2 (v := .int .i64 K) rfl
  obtain ⟨V, hV⟩ : ∃ V, w.alloc (.cells #[.int .i64 256, .int .i64 C, .int .i64 K] 31) = V := ⟨_, rfl⟩
  rw [hV] at hbe d0 d1 d2
  have kf := FrA.new_any 256 C K V (hT.be hbe)
  simp only [hok, if_true] at kf
  have HL := Lib.hid (hL.below (Nat.le_refl _) hbe)
  have HBE := Lib.hid hbe
  clear hT hn hL hok hQ hbk hbe
  go_enter Tryz.func9, Tryz.ntmps9
  go_wp2_with fail
  (with_reducible refine (kf).mono ?_); rintro e1 W1 ⟨hb1, hf1⟩
  obtain ⟨R', C', K', gf, gr, eR, eC, eK, _, _, h8, h9, rfl, hF1⟩ := hf1.ok
  obtain rfl : R' = 256 := by omega
  subst eC eK
  have HC := Lib.hid (And.intro h8 h9)
  have HF0 := Lib.hid (show ∃ v, FrIn W1 V.heap.size gf gr v (frK 256 C' K' l 0) from ⟨_, hF1⟩)
  clear kf hf1 eR d0 d1 d2 hF1
  go_wp2_with fail
  go_loopw [7] (fun iv W => ∃ k : Nat, k ≤ n ∧ iv = .int .i64 k ∧ Hid (∃ v, FrIn W V.heap.size gf gr v (frK 256 C' K' l k)) ∧ Below V.heap.size V W) (fun iv _ => n - (intOf iv).toNat)
  case atStart => exact ⟨0, by omega, rfl, HF0, hb1⟩
  case round =>
    clear HF0 hb1
    obtain ⟨k, hk, rfl, HFT, hbV⟩ := hrel
    have k0 : (0 : Int) ≤ (k : Int) := Int.natCast_nonneg _
    by_cases hkn : k < n
    · have t0 : decide ((k : Int) < (n : Int)) = true := decide_eq_true (by omega)
      have t0' : decide (k < n) = true := decide_eq_true hkn
      obtain ⟨z, hz⟩ : ∃ z, l[k]? = some z := ⟨_, List.getElem?_eq_getElem (by rw [HN.out]; exact hkn)⟩
      obtain ⟨b, o, rfl, hlt, hc⟩ := (HL.out.below (Nat.le_refl _) hbV) k z hz
      have HS := Lib.hid (frK_succ 256 C' K' l k)
      rw [show l.getD k 0 = z by rw [List.getD_eq_getElem?_getD, hz]; rfl] at HS
      have k1 : (k : Int) < (n : Int) := by omega
      have k2 : (k : Int) < 20 := by omega
      have km := fun V => made_any z k V (by omega)
      have HM := Lib.hid (made_ok z k)
      clear hz hlt
      go_wp2_with fail
      (with_reducible refine (km _).mono ?_); rintro e3 W3 ⟨rfl, hb3⟩
      obtain ⟨v, hft⟩ := HFT.out
      have HFT3 := Lib.hid (hft.below hb3)
      have hbV3 := hbV.trans (hb3.mono hbV.size)
      have ka := FrB.add_any W3 V.heap.size gf gr v (frK 256 C' K' l k) (madeD z k) HFT3.out (frK_ok (by decide) (by decide) HC.out.1 l k).ok (by rw [HM.out.2]; unfold madeK; omega)
      rw [← HS.out] at ka
      clear km hft hb3 HFT hbV
      go_wp2_with fail
      (with_reducible refine (ka).mono ?_); rintro e4 W4 ⟨v', rfl, hf4, hfar, hk4⟩
      have hbV4 := hbV3.trans (hk4.be hbV3.size (fun i hi => (HFT3.out.ge i hi).1))
      have HFT4 := Lib.hid (show ∃ v, FrIn W4 V.heap.size gf gr v (frK 256 C' K' l (k + 1)) from ⟨v', hf4⟩)
      clear ka hf4 hfar hk4 HFT3 hbV3
      go_wp2_with fail
      go_roundw
      case rel => exact ⟨k + 1, by omega, by go_num, HFT4, hbV4⟩
      case measure => simp [intOf]; omega
    · obtain rfl : k = n := by omega
      have t0 : decide ((k : Int) < (k : Int)) = false := decide_eq_false (by omega)
      have t0' : decide (k < k) = false := decide_eq_false (by omega)
      have HE := Lib.hid (show FillIn 256 C' K' l w (.returned (.pointer (some ⟨gf, 0, none⟩))) wr from by
        obtain ⟨v, hft⟩ := HFT.out
        exact ⟨⟨C', K', gf, gr, v, rfl, rfl, HC.out.1, HC.out.2, rfl, by rw [HN.out]; exact (⟨hft.box, hft.rows, ApG.own_base hft.l HBE.out.size, hft.ne, hft.nt, hft.nr, Nat.le_trans HBE.out.size hft.bt, Nat.le_trans HBE.out.size hft.br⟩ : FrIn wr w.heap.size gf gr v _)⟩, HBE.out.trans (hbV.mono HBE.out.size)⟩)
      clear HFT hbV
      go_wp2_with fail
      rw [HR.out]
      exact HE.out
end Go.Proofs.YthgcmlhmhojjhaaGreatDoor.BuJ
