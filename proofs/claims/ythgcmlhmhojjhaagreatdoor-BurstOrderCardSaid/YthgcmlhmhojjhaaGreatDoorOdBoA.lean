/- BurstOrder, walked. -/
import Derived.Test.YthgcmlhmhojjhaaGreatDoorOdBoQ
import Derived.Test.YthgcmlhmhojjhaaGreatDoorOdBoM
import Derived.Test.YthgcmlhmhojjhaaGreatDoorOdTkA
namespace Go.Proofs.YthgcmlhmhojjhaaGreatDoor.BoA
open Go Go.RowKit Go.Proofs.YthgcmlhmhojjhaaGreatDoor.Q Go.Proofs.YthgcmlhmhojjhaaGreatDoor.Mem Go.Proofs.YthgcmlhmhojjhaaGreatDoor.Rg Go.Proofs.YthgcmlhmhojjhaaGreatDoor.Ap Go.Proofs.YthgcmlhmhojjhaaGreatDoor.St Go.Proofs.YthgcmlhmhojjhaaGreatDoor.CrB Go.Proofs.YthgcmlhmhojjhaaGreatDoor.Ints Go.Proofs.YthgcmlhmhojjhaaGreatDoor.Tab Go.Proofs.YthgcmlhmhojjhaaGreatDoor.TbM Go.Proofs.YthgcmlhmhojjhaaGreatDoor.TbO Go.Proofs.YthgcmlhmhojjhaaGreatDoor.TbP Go.Proofs.YthgcmlhmhojjhaaGreatDoor.TbT Go.Proofs.YthgcmlhmhojjhaaGreatDoor.TbU Go.Proofs.YthgcmlhmhojjhaaGreatDoor.TbV Go.Proofs.YthgcmlhmhojjhaaGreatDoor.TbW Go.Proofs.YthgcmlhmhojjhaaGreatDoor.FrA Go.Proofs.YthgcmlhmhojjhaaGreatDoor.FrB Go.Proofs.YthgcmlhmhojjhaaGreatDoor.FrC Go.Proofs.YthgcmlhmhojjhaaGreatDoor.LaH Go.Proofs.YthgcmlhmhojjhaaGreatDoor.LaQ Go.Proofs.YthgcmlhmhojjhaaGreatDoor.BuC Go.Proofs.YthgcmlhmhojjhaaGreatDoor.BuE Go.Proofs.YthgcmlhmhojjhaaGreatDoor.BuG Go.Proofs.YthgcmlhmhojjhaaGreatDoor.BuI Go.Proofs.YthgcmlhmhojjhaaGreatDoor.BuJ Go.Proofs.YthgcmlhmhojjhaaGreatDoor.BuL Go.Proofs.YthgcmlhmhojjhaaGreatDoor.BuN Go.Proofs.YthgcmlhmhojjhaaGreatDoor.BuP Go.Proofs.YthgcmlhmhojjhaaGreatDoor.BuS Go.Proofs.YthgcmlhmhojjhaaGreatDoor.BuT Go.Proofs.YthgcmlhmhojjhaaGreatDoor.BoP Go.Proofs.YthgcmlhmhojjhaaGreatDoor.BoQ Go.Proofs.YthgcmlhmhojjhaaGreatDoor.BoM Go.Proofs.YthgcmlhmhojjhaaGreatDoor.GtA

set_option maxRecDepth 100000
theorem eqPl (a : Int) (s : ByteArray) (w : World) : (Op.equalIn 10000 58 (.agg #[.int .i64 a, .string s]) (.agg #[.int .i64 a, .string s])).run Tryz.prog w = .ok true w := by
  have hS : Tryz.prog.underlying 58 = some (.struct (Tryz.prog.fieldsOf 58)) := by kernel_rfl
  have hp : Tryz.prog.stoodInHeld 58 = false := by kernel_rfl
  rw [show (10000 : Nat) = 9999 + 1 from rfl, run_equalIn_agg w 9999 58 _ _ hS hp]
  simp only [Program.fieldsOf, Tryz.underlying58]
  go_simp
theorem frs_of {C K : Nat} (hC : C ≤ 191) (hK : K ≤ 64) (l : List Int) (hl : l.length ≤ 20) (h0 : (frK 256 C K l l.length).L.length ≠ 0) : FrS (frK 256 C K l l.length) :=
  ⟨frK_mk hC hK l hl, frK_ok (by decide) (by decide) hC l _, lay_frK (by decide) (by decide) hC l _, h0⟩
set_option maxHeartbeats 6400000 in
theorem order_any (R C K : Int) (la a0 a1 : Option Addr) (ln lc n0 c0 n1 c1 : Nat) (l x0 x1 : List Int) (w : World) (hT : Tab 2 w) (hF : Tab 1 w) (hZ : Tab 0 w)
    (hln : l.length = ln) (hl : ln ≤ 9223372036854775807) (hL : Ints w la l) (hn0 : x0.length = n0) (hl0 : n0 ≤ 9223372036854775807) (hX0 : Ints w a0 x0) (hn1 : x1.length = n1) (hl1 : n1 ≤ 9223372036854775807) (hX1 : Ints w a1 x1) :
    Calls Tryz.prog 6 #[.agg #[.int .i64 R, .int .i64 C, .int .i64 K], .slice la ln lc, .agg #[.slice a0 n0 c0, .slice a1 n1 c1]] w fun e w' => e = .returned (.bool true) ∧ Below w.heap.size w w' := by
  have hB1 := Blk.new w 31 #[.int .i64 R, .int .i64 C, .int .i64 K]
  have hbe1 := (Below.refl _ w).alloc (Nat.le_refl _) (.cells #[.int .i64 R, .int .i64 C, .int .i64 K] 31)
  have hB2 := hB1.alloc (.cells #[.slice a0 n0 c0, .slice a1 n1 c1] 60)
  have hB3 := Blk.newAt (w.alloc (.cells #[.int .i64 R, .int .i64 C, .int .i64 K] 31)) 60 #[.slice a0 n0 c0, .slice a1 n1 c1] (show w.heap.size + 1 = (w.alloc (.cells #[.int .i64 R, .int .i64 C, .int .i64 K] 31)).heap.size by simp)
  have hbe2 := hbe1.alloc hbe1.size (.cells #[.slice a0 n0 c0, .slice a1 n1 c1] 60)
  obtain ⟨V, hV⟩ : ∃ V, (w.alloc (.cells #[.int .i64 R, .int .i64 C, .int .i64 K] 31)).alloc (.cells #[.slice a0 n0 c0, .slice a1 n1 c1] 60) = V := ⟨_, rfl⟩
  rw [hV] at hB2 hB3 hbe2
  have HT := Lib.hid (And.intro hT (And.intro hF hZ))
  have HL := Lib.hid (hL.below (Nat.le_refl _) hbe2)
  have HX0 := Lib.hid (And.intro hn0 (And.intro hl0 (hX0.below (Nat.le_refl _) hbe2)))
  have HX1 := Lib.hid (And.intro hn1 (And.intro hl1 (hX1.below (Nat.le_refl _) hbe2)))
  have HN := Lib.hid (And.intro hln hl)
  have HB2 := Lib.hid hB2
  have HB3 := Lib.hid hB3
  have HBE0 := Lib.hid hbe2
  have q0 := Blk.cell (hB2) 0 (v := .int .i64 R) rfl
  have q1 := Blk.cell (hB2) 1 (v := .int .i64 C) rfl
  have q2 := Blk.cell (hB2) 2 (v := .int .i64 K) rfl
  have ks := sure_any R C K la ln lc l V (hF.be hbe2) hln hl HL.out
  clear hB1 hbe1 hB2 hB3 hbe2 hT hF hZ hln hl hL hn0 hl0 hX0 hn1 hl1 hX1
  by_cases hs : sureB R C K l = true
  · rw [hs] at ks
    unfold sureB at hs
    simp only [Bool.and_eq_true, decide_eq_true_eq] at hs
    obtain ⟨_, ho, h256, h20⟩ := hs
    rw [HN.out.1] at h20
    subst h256
    have HO := Lib.hid ho
    clear ho
    have s0 : (n0 : Int) ≤ 9223372036854775807 := by have := HX0.out.2.1; omega
    have s1 : (n1 : Int) ≤ 9223372036854775807 := by have := HX1.out.2.1; omega
    go_enter Tryz.func6, Tryz.ntmps6
    go_wp2_with fail
    (with_reducible refine (ks).mono ?_); rintro e1 W1 ⟨rfl, hb1⟩
    have HB1 := Lib.hid (HBE0.out.trans (hb1.mono HBE0.out.size))
    have HV1 := Lib.hid hb1
    have hbk1 := Blk.below HB2.out hb1 HB2.out.lt
    have hbk3 := Blk.below HB3.out hb1 HB3.out.lt
    have e0 := Blk.cell (hbk1) 0 (v := .int .i64 256) rfl
    have e1 := Blk.cell (hbk1) 1 (v := .int .i64 C) rfl
    have e2 := Blk.cell (hbk1) 2 (v := .int .i64 K) rfl
    have f0 := Blk.cell (hbk3) 0 (v := .slice a0 n0 c0) rfl
    have f1 := Blk.cell (hbk3) 1 (v := .slice a1 n1 c1) rfl
    have HBK3 := Lib.hid hbk3
    clear ks hb1 hbk1 hbk3 q0 q1 q2
    by_cases hx0 : 60 < n0
    · have t1 : decide ((60 : Int) < (n0 : Int)) = true := decide_eq_true (by omega)
      have t1' : decide (60 < n0) = true := decide_eq_true hx0
      have HBE := HB1
      clear hx0 e0 e1 e2
      go_wp2_with fail
      have HTA := Lib.hid (awake_any W1 (HT.out.1.be HBE.out) (HT.out.2.1.be HBE.out))
      go_wp2_with fail
      (with_reducible refine (HTA.out).mono ?_); rintro e1 W9 ⟨rfl, hb9⟩
      have hE := HBE.out.trans (hb9.mono HBE.out.size)
      go_wp2_with fail
      go_ret
      exact ⟨rfl, hE⟩
    · have t1 : decide ((60 : Int) < (n0 : Int)) = false := decide_eq_false (by omega)
      have t1' : decide (60 < n0) = false := decide_eq_false hx0
      by_cases hx1 : 60 < n1
      · have t2 : decide ((60 : Int) < (n1 : Int)) = true := decide_eq_true (by omega)
        have t2' : decide (60 < n1) = true := decide_eq_true hx1
        have HBE := HB1
        clear hx0 hx1 e0 e1 e2
        go_wp2_with fail
        have HTA := Lib.hid (awake_any W1 (HT.out.1.be HBE.out) (HT.out.2.1.be HBE.out))
        go_wp2_with fail
        (with_reducible refine (HTA.out).mono ?_); rintro e1 W9 ⟨rfl, hb9⟩
        have hE := HBE.out.trans (hb9.mono HBE.out.size)
        go_wp2_with fail
        go_ret
        exact ⟨rfl, hE⟩
      · have t2 : decide ((60 : Int) < (n1 : Int)) = false := decide_eq_false (by omega)
        have t2' : decide (60 < n1) = false := decide_eq_false hx1
        clear hx0 hx1
        have kf := filled_any 256 C K la ln lc l W1 (HT.out.2.1.be HB1.out) HN.out.1 h20 (HL.out.below (Nat.le_refl _) HV1.out) HO.out rfl
        go_wp2_with fail
        (with_reducible refine (kf).mono ?_); rintro e1 W2 ⟨⟨c, k, gf, gr, v, rfl, rfl, hc, hk, rfl, hf2⟩, hb2⟩
        have HB2' := Lib.hid (HB1.out.trans (hb2.mono HB1.out.size))
        have HW2 := Lib.hid hb2
        have HMK := Lib.hid (frK_mk hc hk l (by rw [HN.out.1]; exact h20))
        have HFS0 := Lib.hid (fun h0 => frs_of hc hk l (by rw [HN.out.1]; exact h20) h0)
        obtain ⟨F, hF⟩ : ∃ F, frK 256 c k l l.length = F := ⟨_, rfl⟩
        rw [hF] at hf2 HMK HFS0
        have HF2 := Lib.hid hf2
        have kb1 := bnew_yes 256 (-1) W2 (HT.out.2.2.be HB2'.out) (by decide)
        clear kf hb2 hF hf2 e0 e1 e2 f0 f1
        go_wp2_with fail
        (with_reducible refine (kb1).mono ?_); rintro e1 W3 ⟨hb3, R1, ga, gta, gra, hR1, _, _, rfl, hga⟩
        obtain rfl : R1 = 256 := by omega
        have HGA3 := Lib.hid (TkA.ga_new hga)
        have HB3' := Lib.hid (HB2'.out.trans (hb3.mono HB2'.out.size))
        have HF3 := Lib.hid (HF2.out.below hb3)
        have HW3 := Lib.hid (HW2.out.trans (hb3.mono HW2.out.size))
        have HZ23 := Lib.hid (show W2.heap.size ≤ W3.heap.size from hb3.size)
        have kb2 := bnew_yes 256 (-1) W3 (HT.out.2.2.be HB3'.out) (by decide)
        clear kb1 hb3 hga hR1
        go_wp2_with fail
        (with_reducible refine (kb2).mono ?_); rintro e1 W4 ⟨hb4, R1, gb, gtb, grb, hR1, _, _, rfl, hgb⟩
        obtain rfl : R1 = 256 := by omega
        have HGA4 := Lib.hid (HGA3.out.below hb4)
        have HGB4 := Lib.hid (TkA.ga_new hgb)
        have HB4 := Lib.hid (HB3'.out.trans (hb4.mono HB3'.out.size))
        have HF4 := Lib.hid (HF3.out.below hb4)
        have HW4 := Lib.hid (HW3.out.trans (hb4.mono HW3.out.size))
        have HZ2 := Lib.hid (show W1.heap.size ≤ W2.heap.size from HW2.out.size)
        have HZ3 := Lib.hid (show W1.heap.size ≤ W3.heap.size from HW3.out.size)
        clear kb2 hb4 hgb hR1
        go_wp2_with fail
        by_cases h0 : F.L.length = 0
        · have km := make_none W4 W1.heap.size gf gr v F 7 HF4.out (HMK.out.zero h0)
          have ku := used_any W4 W1.heap.size gf gr v F HF4.out
          rw [HMK.out.zero h0] at ku
          have HBE := HB4
          clear h0
          (with_reducible refine (km).mono ?_); rintro e1 W5 ⟨rfl, rfl⟩
          go_wp2_with fail
          (with_reducible refine (ku).mono ?_); rintro e1 W5 ⟨rfl, rfl⟩
          clear km ku
          have HTA := Lib.hid (awake_any W4 (HT.out.1.be HBE.out) (HT.out.2.1.be HBE.out))
          go_wp2_with fail
          (with_reducible refine (HTA.out).mono ?_); rintro e1 W9 ⟨rfl, hb9⟩
          have hE := HBE.out.trans (hb9.mono HBE.out.size)
          go_wp2_with fail
          go_ret
          exact ⟨rfl, hE⟩
        · have km := make_any W4 W1.heap.size gf gr v F 7 (HT.out.1.be HB4.out) (HT.out.1.be HB1.out).lt HF4.out HMK.out.ok HMK.out.K HMK.out.good h0 (HMK.out.pos h0) HMK.out.col
          have HFS := Lib.hid (HFS0.out h0)
          clear h0
          go_wp2_with fail
          (with_reducible refine (km).mono ?_); rintro e1 W5 hM
          obtain ⟨vm, rfl, hm⟩ := hM.ok ⟨by decide, by decide⟩
          have hml := mkL_len F 7
          obtain ⟨N, hN⟩ : ∃ N, (mkL F 7).length = N := ⟨_, rfl⟩
          rw [hN] at hm hml
          obtain ⟨ma0, mc, rfl, hsl⟩ := own_slc hm hN
          have hN84 : N ≤ 84 := by have := HMK.out.n; omega
          have hN0 : N ≠ 0 := by have := HFS.out.n0; omega
          have HNN := Lib.hid hN
          obtain ⟨mb, mo, rfl⟩ : ∃ mb mo, ma0 = some ⟨mb, mo, none⟩ := by
            cases ma0 with
            | none => exact absurd (hsl.nil rfl).1 hN0
            | some a' => obtain ⟨b, o, e⟩ := hsl.form a' rfl; exact ⟨b, o, by rw [e]⟩
          have hmb := (hm.lt mb rfl)
          have hW5 := HW4.out.trans (hM.kept.be (B := W1.heap.size) HW4.out.size (fun i hi => (HF4.out.ge i hi).1))
          have HPR5 := Lib.hid (show Pr W5 W2.heap.size ga gta gra (.slice none 0 0) (emptyT 256) 0 W3.heap.size gb gtb grb (.slice none 0 0) (emptyT 256) 0 mb mo (mkL F 7) from by
            have hga5 := ga_kept HGA4.out hM.kept (fun i hi hf => by have h1 := (HF2.out.ge i hf).2; have h2 := (HGA4.out.ge i hi).1; omega)
            have hgb5 := ga_kept HGB4.out hM.kept (fun i hi hf => by have h1 := (HF2.out.ge i hf).2; have h2 := (HGB4.out.ge i hi).1; have := HZ23.out; omega)
            exact ⟨⟨hga5, fun h => by have := (HGA4.out.ge _ h).2; omega, hsl.s, hmb.2⟩, ⟨hgb5, fun h => by have := (HGB4.out.ge _ h).2; omega, hsl.s, hmb.2⟩, fun i h1 h2 => by have := (HGA3.out.ge i h1).2; have := (HGB4.out.ge i h2).1; omega⟩)
          have HW5 := Lib.hid hW5
          clear km hM hm hml hsl hN hmb hW5 HGA4 HGB4 HF4
          go_wp2_with fail
          go_loopw [14, 15] (fun nv iv W => ∃ (i n : Nat) (va : Value) (T : Tb), i ≤ N ∧ nv = .int .i64 n ∧ iv = .int .i64 i ∧ Pr W W2.heap.size ga gta gra va T n W3.heap.size gb gtb grb (.slice none 0 0) (emptyT 256) 0 mb mo (mkL F 7) ∧ Hid (KnS F T (fun j => j < i ∧ (j : Int) ∉ x0)) ∧ Hid (T.st.length ≤ 2 * i ∧ n ≤ i) ∧ Below W1.heap.size W1 W) (fun _ iv _ => N - (intOf iv).toNat)
          case atStart => exact ⟨0, 0, .slice none 0 0, emptyT 256, by omega, rfl, rfl, HPR5.out, Lib.hid ((kns_empty F).congr (fun j => ⟨False.elim, fun h => by omega⟩)), Lib.hid ⟨by simp [emptyT], Nat.le_refl _⟩, HW5.out⟩
          case round =>
            obtain ⟨i, n, va, T, hi, rfl, rfl, hPr, HKT, HTN, hbW⟩ := hrel
            have i0 : (0 : Int) ≤ (i : Int) := Int.natCast_nonneg _
            have hbk9 := Blk.below HBK3.out hbW HBK3.out.lt
            have f0 := Blk.cell (hbk9) 0 (v := .slice a0 n0 c0) rfl
            have f1 := Blk.cell (hbk9) 1 (v := .slice a1 n1 c1) rfl
            have n01 : (0 : Int) ≤ (n : Int) := Int.natCast_nonneg _
            have n02 : (n : Int) ≤ 84 := by have := HTN.out.2; omega
            by_cases hin : i < N
            · have t3 : decide ((i : Int) < (N : Int)) = true := decide_eq_true (by omega)
              have t3' : decide (i < N) = true := decide_eq_true hin
              have i1 : (i : Int) < (N : Int) := by omega
              have hbV := HV1.out.trans (hbW.mono HV1.out.size)
              have kin := in_any a0 n0 c0 x0 (i : Int) wr HX0.out.1 HX0.out.2.1 (HX0.out.2.2.below (Nat.le_refl _) hbV)
              clear hbV hbk9
              go_wp2_with fail
              (with_reducible refine (kin).mono ?_); rintro e6 W6 ⟨rfl, rfl⟩
              clear kin
              by_cases hm : (i : Int) ∈ x0
              · rw [decide_eq_true hm]
                have HK2 := Lib.hid (HKT.out.congr (Q := fun j => j < i + 1 ∧ (j : Int) ∉ x0) (fun j => ⟨fun h => ⟨by omega, h.2⟩, fun h => ⟨by have : j ≠ i := fun e => h.2 (e ▸ hm); omega, h.2⟩⟩))
                have HTN2 := Lib.hid (show T.st.length ≤ 2 * (i + 1) ∧ n ≤ i + 1 from ⟨by have := HTN.out.1; omega, by have := HTN.out.2; omega⟩)
                clear hm HKT HTN f0 f1
                go_wp2_with fail
                go_roundw
                case rel => exact ⟨i + 1, n, va, T, by omega, rfl, by go_num, hPr, HK2, HTN2, hbW⟩
                case measure => simp [intOf]; omega
              · rw [decide_eq_false hm]
                obtain ⟨s, hs⟩ : ∃ s, (mkL F 7)[i]? = some s := ⟨_, List.getElem?_eq_getElem (by rw [HNN.out]; exact hin)⟩
                obtain ⟨b0, o0, hbo, hlt, hc⟩ := hPr.a.m i s hs
                injection hbo with hbo
                injection hbo with e1 e2
                subst e1 e2
                have c0' : wr.cell? ⟨mb, mo + i, none⟩ = some (.string s) := hc 0 _ rfl
                have hsz := mk_sz HFS.out hs
                have kt := take_any wr _ ga gta gra va T (-1) n s hPr.a.a HKT.out.2 (by have := HTN.out.1; omega) HKT.out.1.R (by omega) (by omega) (HT.out.1.be (HB1.out.trans (hbW.mono HB1.out.size)))
                obtain ⟨k1, _, k3⟩ := kns_step HFS.out HKT.out (by have := HTN.out.1; omega) hs
                have HSX := Lib.hid (tk_ok HKT.out.2 (by have := HTN.out.1; omega) (-1) s).2.1
                have HK2 := Lib.hid (k3.congr (Q := fun j => j < i + 1 ∧ (j : Int) ∉ x0) (fun j => ⟨fun h => h.elim (fun h => ⟨by omega, h.2⟩) (fun e => ⟨by omega, e ▸ hm⟩), fun h => by
                  by_cases e : j = i
                  · exact Or.inr e
                  · exact Or.inl ⟨by omega, h.2⟩⟩))
                have HR := Lib.hid HKT.out.1.R
                have HTN2 := Lib.hid (show (tkT T (-1) s).st.length ≤ 2 * (i + 1) ∧ n + 1 ≤ i + 1 from ⟨by have := HTN.out.1; have := HSX.out; omega, by have := HTN.out.2; omega⟩)
                have kt2 : Calls Tryz.prog 11 #[.pointer (some ⟨ga, 0, none⟩), .string s] wr fun e w' => ∃ FF va', e = .returned (.tuple #[.bool FF, .int .i64 0]) ∧ Pr w' W2.heap.size ga gta gra va' (tkT T (-1) s) (n + 1) W3.heap.size gb gtb grb (.slice none 0 0) (emptyT 256) 0 mb mo (mkL F 7) ∧ Below W1.heap.size W1 w' := kt.mono (fun e w' h => by
                  obtain ⟨v8, h8, h9⟩ := h.ga
                  have he := h.e
                  rw [HR.out] at he h8
                  rw [k1] at he
                  rw [show tkN 256 (-1) s n = n + 1 by unfold tkN; rw [k1, if_pos rfl]] at h8
                  exact ⟨_, v8, he, hPr.left h8 h9 h.k, hbW.trans (h.k.be hbW.size (fun i hi => Nat.le_trans HZ2.out (hPr.a.a.ge i hi).1))⟩)
                clear kt hs hlt hc k3 hm HKT HTN HSX f0 f1 hsz
                go_wp2_with fail
                (with_reducible refine (kt2).mono ?_); rintro e6 W6 ⟨FF, va2, rfl, hPr2, hbW2⟩
                clear kt2 hPr hbW c0' k1
                go_wp2_with fail
                go_roundw
                case rel => exact ⟨i + 1, n + 1, va2, _, by omega, by go_num, by go_num, hPr2, HK2, HTN2, hbW2⟩
                case measure => simp [intOf]; omega
            · obtain rfl : i = N := by omega
              have t3 : decide ((i : Int) < (i : Int)) = false := decide_eq_false (by omega)
              have t3' : decide (i < i) = false := decide_eq_false (by omega)
              clear hbk9 f0 f1
              go_wp2_with fail
              go_loopw [18, 19] (fun kv iv W => ∃ (m k : Nat) (vb : Value) (U : Tb), m ≤ i ∧ kv = .int .i64 k ∧ iv = .int .i64 ((m : Int) - 1) ∧ Pr W W2.heap.size ga gta gra va T n W3.heap.size gb gtb grb vb U k mb mo (mkL F 7) ∧ Hid (KnS F U (fun j => m ≤ j ∧ j < i ∧ (j : Int) ∉ x0)) ∧ Hid (U.st.length ≤ 4 * (i - m) ∧ k ≤ 2 * (i - m)) ∧ Below W1.heap.size W1 W) (fun _ iv _ => (intOf iv + 1).toNat)
              case atStart => exact ⟨i, 0, .slice none 0 0, emptyT 256, by omega, rfl, rfl, hPr, Lib.hid ((kns_empty F).congr (fun j => ⟨False.elim, fun h => by omega⟩)), Lib.hid ⟨by simp [emptyT], by omega⟩, hbW⟩
              case round =>
                clear hPr hbW
                obtain ⟨m, k, vb, U, hm, rfl, rfl, hPr, HKU, HUN, hbW⟩ := hrel
                have k01 : (0 : Int) ≤ (k : Int) := Int.natCast_nonneg _
                have k02 : (k : Int) ≤ 168 := by have := HUN.out.2; omega
                by_cases hm0 : 0 < m
                · obtain ⟨j, rfl⟩ : ∃ j, m = j + 1 := ⟨m - 1, by omega⟩
                  rw [show ((j + 1 : Nat) : Int) - 1 = (j : Int) by omega]
                  have j0 : (0 : Int) ≤ (j : Int) := Int.natCast_nonneg _
                  have j1 : (j : Int) < (i : Int) := by omega
                  have t4 : decide ((0 : Int) ≤ (j : Int)) = true := decide_eq_true j0
                  have hbk9 := Blk.below HBK3.out hbW HBK3.out.lt
                  have f0 := Blk.cell (hbk9) 0 (v := .slice a0 n0 c0) rfl
                  have f1 := Blk.cell (hbk9) 1 (v := .slice a1 n1 c1) rfl
                  have kin := in_any a0 n0 c0 x0 (j : Int) wr HX0.out.1 HX0.out.2.1 (HX0.out.2.2.below (Nat.le_refl _) (HV1.out.trans (hbW.mono HV1.out.size)))
                  clear hbk9
                  go_wp2_with fail
                  (with_reducible refine (kin).mono ?_); rintro e6 W6 ⟨rfl, rfl⟩
                  clear kin
                  by_cases hx : (j : Int) ∈ x0
                  · rw [decide_eq_true hx]
                    have HK2 := Lib.hid (HKU.out.congr (Q := fun q => j ≤ q ∧ q < i ∧ (q : Int) ∉ x0) (fun q => ⟨fun h => ⟨by omega, h.2⟩, fun h => ⟨by have : q ≠ j := fun e => h.2.2 (e ▸ hx); omega, h.2⟩⟩))
                    have HUN2 := Lib.hid (show U.st.length ≤ 4 * (i - j) ∧ k ≤ 2 * (i - j) from ⟨by have := HUN.out.1; omega, by have := HUN.out.2; omega⟩)
                    clear hx HKU HUN f0 f1
                    go_wp2_with fail
                    go_roundw
                    case rel => exact ⟨j, k, vb, U, by omega, rfl, by go_num, hPr, HK2, HUN2, hbW⟩
                    case measure => simp [intOf] <;> omega
                  · rw [decide_eq_false hx]
                    obtain ⟨s, hs⟩ : ∃ s, (mkL F 7)[j]? = some s := ⟨_, List.getElem?_eq_getElem (by rw [HNN.out]; omega)⟩
                    have HSJ := Lib.hid hs
                    have HSZ := Lib.hid (mk_sz HFS.out hs)
                    have ktk : ∀ (W : World) (vb : Value) (U : Tb) (k : Nat) (Q : Nat → Prop), k ≤ 1000 → Pr W W2.heap.size ga gta gra va T n W3.heap.size gb gtb grb vb U k mb mo (mkL F 7) → KnS F U Q → U.st.length ≤ 1000 → Below W1.heap.size W1 W →
                        Calls Tryz.prog 11 #[.pointer (some ⟨gb, 0, none⟩), .string s] W fun e w' => ∃ FF vb' U', e = .returned (.tuple #[.bool FF, .int .i64 0]) ∧ Pr w' W2.heap.size ga gta gra va T n W3.heap.size gb gtb grb vb' U' (k + 1) mb mo (mkL F 7) ∧ KnS F U' (fun q => Q q ∨ q = j) ∧ U'.st.length ≤ U.st.length + 2 ∧ Below W1.heap.size W1 w' := fun W vb U k Q hk hP hK hst hW => by
                      have kt := take_any W _ gb gtb grb vb U (-1) k s hP.b.a hK.2 (by omega) hK.1.R (by have := HSZ.out; omega) (by omega) (HT.out.1.be (HB1.out.trans (hW.mono HB1.out.size)))
                      obtain ⟨k1, _, k3⟩ := kns_step HFS.out hK (by omega) HSJ.out
                      refine kt.mono (fun e w' h => ?_)
                      obtain ⟨v8, h8, h9⟩ := h.ga
                      have he := h.e
                      rw [hK.1.R] at he h8
                      rw [k1] at he
                      rw [show tkN 256 (-1) s k = k + 1 by unfold tkN; rw [k1, if_pos rfl]] at h8
                      exact ⟨_, v8, _, he, hP.right h8 h9 h.k, k3, (tk_ok hK.2 (by omega) (-1) s).2.1, hW.trans (h.k.be hW.size (fun i hi => Nat.le_trans HZ3.out (hP.b.a.ge i hi).1))⟩
                    have kt2 := ktk wr vb U k _ (by omega) hPr HKU.out (by have := HUN.out.1; omega) hbW
                    obtain ⟨b0, o0, hbo, hlt, hc⟩ := hPr.a.m j s HSJ.out
                    injection hbo with hbo
                    injection hbo with e1 e2
                    subst e1 e2
                    have c0' : wr.cell? ⟨mb, mo + j, none⟩ = some (.string s) := hc 0 _ rfl
                    have HKTK := Lib.hid ktk
                    have HXN := Lib.hid hx
                    clear hs hlt hc hx ktk f0 f1
                    go_wp2_with fail
                    (with_reducible refine (kt2).mono ?_); rintro e6 W6 ⟨FF, vb2, U2, rfl, hPr2, hKU2, hst2, hbW2⟩
                    have hbk9 := Blk.below HBK3.out hbW2 HBK3.out.lt
                    have f0 := Blk.cell (hbk9) 0 (v := .slice a0 n0 c0) rfl
                    have f1 := Blk.cell (hbk9) 1 (v := .slice a1 n1 c1) rfl
                    have kin := in_any a1 n1 c1 x1 (j : Int) W6 HX1.out.1 HX1.out.2.1 (HX1.out.2.2.below (Nat.le_refl _) (HV1.out.trans (hbW2.mono HV1.out.size)))
                    clear kt2 hPr hbW c0' hbk9
                    go_wp2_with fail
                    (with_reducible refine (kin).mono ?_); rintro e6 W7 ⟨rfl, rfl⟩
                    clear kin
                    have HK2 := Lib.hid (hKU2.congr (Q := fun q => j ≤ q ∧ q < i ∧ (q : Int) ∉ x0) (fun q => ⟨fun h => h.elim (fun h => ⟨by omega, h.2⟩) (fun e => ⟨by omega, by omega, e ▸ HXN.out⟩), fun h => by
                      by_cases e : q = j
                      · exact Or.inr e
                      · exact Or.inl ⟨by omega, h.2⟩⟩))
                    clear hKU2
                    by_cases hx1 : (j : Int) ∈ x1
                    · rw [decide_eq_true hx1]
                      have kt3 := HKTK.out W6 vb2 U2 (k + 1) _ (by omega) hPr2 HK2.out (by have := HUN.out.1; omega) hbW2
                      have hPr := hPr2
                      obtain ⟨b0, o0, hbo, hlt, hc⟩ := hPr.a.m j s HSJ.out
                      injection hbo with hbo
                      injection hbo with e1 e2
                      subst e1 e2
                      have c0' : W6.cell? ⟨mb, mo + j, none⟩ = some (.string s) := hc 0 _ rfl
                      clear hlt hc hx1 f0 f1 hPr
                      go_wp2_with fail
                      (with_reducible refine (kt3).mono ?_); rintro e6 W7 ⟨FF3, vb3, U3, rfl, hPr3, hKU3, hst3, hbW3⟩
                      have HK3 := Lib.hid (hKU3.congr (Q := fun q => j ≤ q ∧ q < i ∧ (q : Int) ∉ x0) (fun q => ⟨fun h => h.elim id (fun e => ⟨by omega, by omega, e ▸ HXN.out⟩), Or.inl⟩))
                      have HUN2 := Lib.hid (show U3.st.length ≤ 4 * (i - j) ∧ k + 1 + 1 ≤ 2 * (i - j) from ⟨by have := HUN.out.1; omega, by have := HUN.out.2; omega⟩)
                      clear kt3 hPr2 hbW2 c0' hKU3 hst2 hst3 HKU HUN HK2
                      go_wp2_with fail
                      go_roundw
                      case rel => exact ⟨j, k + 1 + 1, vb3, U3, by omega, by go_num, by go_num, hPr3, HK3, HUN2, hbW3⟩
                      case measure => simp [intOf] <;> omega
                    · rw [decide_eq_false hx1]
                      have HUN2 := Lib.hid (show U2.st.length ≤ 4 * (i - j) ∧ k + 1 ≤ 2 * (i - j) from ⟨by have := HUN.out.1; omega, by have := HUN.out.2; omega⟩)
                      clear hx1 HKU HUN f0 f1 hst2
                      go_wp2_with fail
                      go_roundw
                      case rel => exact ⟨j, k + 1, vb2, U2, by omega, by go_num, by go_num, hPr2, HK2, HUN2, hbW2⟩
                      case measure => simp [intOf] <;> omega
                · obtain rfl : m = 0 := by omega
                  rw [show ((0 : Nat) : Int) - 1 = -1 from rfl]
                  have t4 : decide ((0 : Int) ≤ (-1 : Int)) = false := by decide
                  have hKT := HKT.out
                  have hKU := HKU
                  obtain rfl : T = U := kns_eq (hKT.congr (fun j => ⟨fun h => ⟨Nat.zero_le _, h.1, h.2⟩, fun h => ⟨h.2.1, h.2.2⟩⟩)) hKU
                  have hTR := hKT.1.R
                  have ka := taken_any hPr.a.a
                  have kb := taken_any hPr.b.a
                  have ke := end_any wr _ ga gta gra va T (rowC F) (-1) n hPr.a.a hKT.2 (fun r hr => hKT.row HFS.out r hr)
                  have HPR := Lib.hid hPr
                  have HKT2 := Lib.hid hKT
                  have HTR := Lib.hid hTR
                  have HBWr := Lib.hid hbW
                  obtain ⟨Mx, hMx, _⟩ := mended_out HFS.out hKT
                  have hd20 : (outAt (mdS T (rowC F) T.R) 0).length ≤ 20 := by
                    rw [hTR, hMx.out, List.length_map]
                    have h1 := hMx.sub.length_le
                    have h2 := HMK.out.n
                    omega
                  clear hKT hKU HKT HKU hPr hTR hMx hbW HTN
                  go_wp2_with fail
                  (with_reducible refine (ka).mono ?_); rintro e7 W7 ⟨rfl, rfl⟩
                  clear ka
                  go_wp2_with fail
                  (with_reducible refine (kb).mono ?_); rintro e7 W7 ⟨rfl, rfl⟩
                  clear kb
                  go_wp2_with fail
                  (with_reducible refine (ke).mono ?_); rintro e7 W7 ⟨⟨ov1, rfl, hown7⟩, hga7, hk7⟩
                  have hgb7 := ga_kept HPR.out.b.a hk7 (fun i hi hi2 => HPR.out.ap i hi2 hi)
                  have hw7 := HBWr.out.trans (hk7.be HBWr.out.size (fun i hi => Nat.le_trans HZ2.out (HPR.out.a.a.ge i hi).1))
                  have ke2 := end_any W7 _ gb gtb grb vb T (rowC F) (-1) k hgb7 HKT2.out.2 (fun r hr => HKT2.out.row HFS.out r hr)
                  obtain ⟨oa1, oc1, hov⟩ := own_form hown7
                  subst hov
                  obtain ⟨S, hS⟩ : ∃ S, mdS T (rowC F) T.R = S := ⟨_, rfl⟩
                  have HHS := Lib.hid hS
                  rw [hS] at hown7 hd20
                  have HOW7 := Lib.hid hown7
                  obtain ⟨m1, hm1⟩ : ∃ m, cntM T T.R = m := ⟨_, rfl⟩
                  obtain ⟨m2, hm2⟩ : ∃ m, cntF T T.R = m := ⟨_, rfl⟩
                  have HMM := Lib.hid (And.intro hm1 hm2)
                  rw [hm1, hm2, hS]
                  have HGB := Lib.hid (fun i (hi : footG gb gtb grb vb i) => (HPR.out.b.a.ge i hi).2)
                  have HW7 := Lib.hid hw7
                  have HB7 := Lib.hid (fun i (hi : footG gb gtb grb vb i) => Nat.le_trans HZ3.out (HPR.out.b.a.ge i hi).1)
                  clear ke hga7 hk7 hgb7 hown7 hw7 hm1 hm2 hS
                  go_wp2_with fail
                  (with_reducible refine (ke2).mono ?_); rintro e8 W8 ⟨⟨ov2, rfl, hown8⟩, hga8, hk8⟩
                  obtain ⟨oa2, oc2, hov⟩ := own_form hown8
                  subst hov
                  rw [HHS.out] at hown8
                  rw [HMM.out.1, HMM.out.2, HHS.out]
                  have hown78 := FrA.own_kept HOW7.out hk8 (fun i hi hf => by have h1 := (HOW7.out.lt i hi).1; have h2 := HGB.out i hf; omega)
                  have hw8 := HW7.out.trans (hk8.be HW7.out.size HB7.out)
                  have HB8 := Lib.hid (HB1.out.trans (hw8.mono HB1.out.size))
                  have HS1 := Lib.hid (own_seq (en := enPl S) (sz := 2) (fun _ => rfl) hown78 rfl)
                  have HS2 := Lib.hid (own_seq (en := enPl S) (sz := 2) (fun _ => rfl) hown8 rfl)
                  obtain ⟨O, hO⟩ : ∃ O, outAt S 0 = O := ⟨_, rfl⟩
                  rw [hO] at HS1 HS2 hd20 ⊢
                  obtain ⟨d, hd⟩ : ∃ d, O.length = d := ⟨_, rfl⟩
                  have HD := Lib.hid hd
                  rw [hd] at hd20 ⊢
                  clear ke2 hga8 hk8 hown8 hown78 hw8 hO hd HGB HB7 HOW7 HHS HMM HPR HKT2
                  go_wp2_with fail
                  go_loopw [26] (fun kv W => ∃ q : Nat, q ≤ d ∧ kv = .int .i64 q ∧ Below W8.heap.size W8 W) (fun kv _ => d - (intOf kv).toNat)
                  case atStart => exact ⟨0, by omega, rfl, Below.refl _ _⟩
                  case round =>
                    obtain ⟨q, hq, rfl, hbe⟩ := hrel
                    have q0 : (0 : Int) ≤ (q : Int) := Int.natCast_nonneg _
                    by_cases hqn : q < d
                    · have t3 : decide ((q : Int) < (d : Int)) = true := decide_eq_true (by omega)
                      have t3' : decide (q < d) = true := decide_eq_true hqn
                      have q1 : (q : Int) < (d : Int) := by omega
                      have q20 : (q : Int) ≤ 20 := by omega
                      obtain ⟨y, hy⟩ : ∃ y, O[q]? = some y := ⟨_, List.getElem?_eq_getElem (by rw [HD.out]; exact hqn)⟩
                      obtain ⟨b1, o1, rfl, hlt1, hc1⟩ := HS1.out q y hy
                      obtain ⟨b2, o2, rfl, hlt2, hc2⟩ := HS2.out q y hy
                      rw [off_eq] at hc1 hc2
                      have a1 := hc1 0 (.int .i64 (y.1 : Int)) rfl
                      have a2 := hc1 1 (.string (str (bytesL S y.1 y.2))) rfl
                      have d1 := hc2 0 (.int .i64 (y.1 : Int)) rfl
                      have d2 := hc2 1 (.string (str (bytesL S y.1 y.2))) rfl
                      have r1 := fun pX => (World.cell?_of_block (a := ⟨b1, o1 + q * 2, none⟩) ((hbe.trans ((below_ext wr pX).mono hbe.size)).block b1 hlt1)).trans a1
                      have r2 := fun pX => (World.cell?_of_block (a := ⟨b1, o1 + q * 2 + 1, none⟩) ((hbe.trans ((below_ext wr pX).mono hbe.size)).block b1 hlt1)).trans a2
                      have r3 := fun pX => (World.cell?_of_block (a := ⟨b2, o2 + q * 2, none⟩) ((hbe.trans ((below_ext wr pX).mono hbe.size)).block b2 hlt2)).trans d1
                      have r4 := fun pX => (World.cell?_of_block (a := ⟨b2, o2 + q * 2 + 1, none⟩) ((hbe.trans ((below_ext wr pX).mono hbe.size)).block b2 hlt2)).trans d2
                      obtain ⟨s1, hs1⟩ : ∃ s1, str (bytesL S y.1 y.2) = s1 := ⟨_, rfl⟩
                      rw [hs1] at r2 r4
                      have eqp := fun V => eqPl (y.1 : Int) s1 V
                      clear hy hlt1 hlt2 hc1 hc2 a1 a2 d1 d2 hs1
                      go_wp2_with fail
                      refine Go.Proofs.YthgcmlhmhojjhaaGreatDoor.Q.region_ext (by kernel_rfl) (by kernel_rfl) ?_
                      repeat (go_big_quiet_step (fail))
                      refine wpQuiet_nil ?_
                      rintro w9 ⟨pq, rfl⟩
                      have hbe9 := hbe.trans ((below_ext wr pq).mono hbe.size)
                      clear r1 r2 r3 r4 hbe eqp
                      go_wp2_with fail
                      go_roundw
                      case rel => exact ⟨q + 1, by omega, by go_num, hbe9⟩
                      case measure => simp [intOf]; omega
                    · obtain rfl : q = d := by omega
                      have t3 : decide ((q : Int) < (q : Int)) = false := decide_eq_false (by omega)
                      have t3' : decide (q < q) = false := decide_eq_false (by omega)
                      have HBE := Lib.hid (HB8.out.trans (hbe.mono HB8.out.size))
                      clear hbe
                      have HTA := Lib.hid (awake_any wr (HT.out.1.be HBE.out) (HT.out.2.1.be HBE.out))
                      go_wp2_with fail
                      (with_reducible refine (HTA.out).mono ?_); rintro e1 W9 ⟨rfl, hb9⟩
                      have hE := HBE.out.trans (hb9.mono HBE.out.size)
                      go_wp2_with fail
                      go_ret
                      exact ⟨rfl, hE⟩
  · have hs' : sureB R C K l = false := by simpa using hs
    rw [hs'] at ks
    clear hs hs'
    go_enter Tryz.func6, Tryz.ntmps6
    go_wp2_with fail
    (with_reducible refine (ks).mono ?_); rintro e1 W1 ⟨rfl, hb1⟩
    have HBE := Lib.hid (HBE0.out.trans (hb1.mono HBE0.out.size))
    clear ks hb1 q0 q1 q2
    have HTA := Lib.hid (awake_any W1 (HT.out.1.be HBE.out) (HT.out.2.1.be HBE.out))
    go_wp2_with fail
    (with_reducible refine (HTA.out).mono ?_); rintro e1 W9 ⟨rfl, hb9⟩
    have hE := HBE.out.trans (hb9.mono HBE.out.size)
    go_wp2_with fail
    go_ret
    exact ⟨rfl, hE⟩
end Go.Proofs.YthgcmlhmhojjhaaGreatDoor.BoA
