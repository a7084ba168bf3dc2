/- BurstBack, walked. -/
import Derived.Test.YthgcmlhmhojjhaaGreatDoorSbGtB
import Derived.Test.YthgcmlhmhojjhaaGreatDoorSbBoA
namespace Go.Proofs.YthgcmlhmhojjhaaGreatDoor.BbA
open Go Go.RowKit Go.Proofs.YthgcmlhmhojjhaaGreatDoor.Q Go.Proofs.YthgcmlhmhojjhaaGreatDoor.Mem Go.Proofs.YthgcmlhmhojjhaaGreatDoor.Rg Go.Proofs.YthgcmlhmhojjhaaGreatDoor.Ap Go.Proofs.YthgcmlhmhojjhaaGreatDoor.St Go.Proofs.YthgcmlhmhojjhaaGreatDoor.CrB Go.Proofs.YthgcmlhmhojjhaaGreatDoor.Ints Go.Proofs.YthgcmlhmhojjhaaGreatDoor.Tab Go.Proofs.YthgcmlhmhojjhaaGreatDoor.TbM Go.Proofs.YthgcmlhmhojjhaaGreatDoor.TbO Go.Proofs.YthgcmlhmhojjhaaGreatDoor.TbP Go.Proofs.YthgcmlhmhojjhaaGreatDoor.TbT Go.Proofs.YthgcmlhmhojjhaaGreatDoor.TbU Go.Proofs.YthgcmlhmhojjhaaGreatDoor.TbV Go.Proofs.YthgcmlhmhojjhaaGreatDoor.TbW Go.Proofs.YthgcmlhmhojjhaaGreatDoor.FrA Go.Proofs.YthgcmlhmhojjhaaGreatDoor.FrB Go.Proofs.YthgcmlhmhojjhaaGreatDoor.FrC Go.Proofs.YthgcmlhmhojjhaaGreatDoor.LaH Go.Proofs.YthgcmlhmhojjhaaGreatDoor.LaQ Go.Proofs.YthgcmlhmhojjhaaGreatDoor.BuC Go.Proofs.YthgcmlhmhojjhaaGreatDoor.BuE Go.Proofs.YthgcmlhmhojjhaaGreatDoor.BuG Go.Proofs.YthgcmlhmhojjhaaGreatDoor.BuI Go.Proofs.YthgcmlhmhojjhaaGreatDoor.BuJ Go.Proofs.YthgcmlhmhojjhaaGreatDoor.BuL Go.Proofs.YthgcmlhmhojjhaaGreatDoor.BuN Go.Proofs.YthgcmlhmhojjhaaGreatDoor.BuP Go.Proofs.YthgcmlhmhojjhaaGreatDoor.BuS Go.Proofs.YthgcmlhmhojjhaaGreatDoor.BuT Go.Proofs.YthgcmlhmhojjhaaGreatDoor.BoP Go.Proofs.YthgcmlhmhojjhaaGreatDoor.BoQ Go.Proofs.YthgcmlhmhojjhaaGreatDoor.BoM Go.Proofs.YthgcmlhmhojjhaaGreatDoor.GtA Go.Proofs.YthgcmlhmhojjhaaGreatDoor.GtB
def shB (L : List (Nat × ByteArray)) (i : Nat) : Bool := decide (∀ x ∈ L.take i, x.2.size ≤ 256)
theorem shB_step {L : List (Nat × ByteArray)} {i : Nat} {z : Nat × ByteArray} (hz : L[i]? = some z) : shB L (i + 1) = (shB L i && decide (z.2.size ≤ 256)) := by
  unfold shB
  rw [take_snoc hz, ← Bool.decide_and]
  congr 1
  simp only [List.mem_append, List.mem_singleton, eq_iff_iff]
  exact ⟨fun h => ⟨fun x hx => h x (Or.inl hx), h z (Or.inr rfl)⟩, fun h x hx => hx.elim (h.1 x) (fun e => e ▸ h.2)⟩
def loN (tk : Nat → Bool) (i : Nat) : Nat := ((List.range i).filter (fun j => !tk j)).length
theorem loN_step (tk : Nat → Bool) (i : Nat) : loN tk (i + 1) = loN tk i + if tk i then 0 else 1 := by
  unfold loN
  rw [List.range_succ, List.filter_append, List.length_append]
  cases h : tk i <;> simp [h]
theorem loN_le (tk : Nat → Bool) (i : Nat) : loN tk i ≤ i := by
  have := List.length_filter_le (fun j => !tk j) (List.range i)
  rw [List.length_range] at this
  exact this

set_option maxRecDepth 100000
set_option maxHeartbeats 6400000 in
theorem back_any (R C K : Int) (la a0 a1 : Option Addr) (ln lc n0 c0 n1 c1 : Nat) (l x0 : List Int) (x1 : List (Int × Int)) (w : World) (hT : Tab 2 w) (hF : Tab 1 w) (hZ : Tab 0 w)
    (hln : l.length = ln) (hl : ln ≤ 9223372036854775807) (hL : Ints w la l) (hn0 : x0.length = n0) (hl0 : n0 ≤ 9223372036854775807) (hX0 : Ints w a0 x0) (hn1 : x1.length = n1) (hl1 : n1 ≤ 9223372036854775807) (hX1 : Seq enT2 2 w a1 x1) :
    Calls Tryz.prog 4 #[.agg #[.int .i64 R, .int .i64 C, .int .i64 K], .slice la ln lc, .agg #[.slice a0 n0 c0, .slice a1 n1 c1]] w fun e w' => e = .returned (.bool true) ∧ Below w.heap.size w w' := by
  have hB1 := Blk.new w 31 #[.int .i64 R, .int .i64 C, .int .i64 K]
  have hbe1 := (Below.refl _ w).alloc (Nat.le_refl _) (.cells #[.int .i64 R, .int .i64 C, .int .i64 K] 31)
  have hB2 := hB1.alloc (.cells #[.slice a0 n0 c0, .slice a1 n1 c1] 46)
  have hB3 := Blk.newAt (w.alloc (.cells #[.int .i64 R, .int .i64 C, .int .i64 K] 31)) 46 #[.slice a0 n0 c0, .slice a1 n1 c1] (show w.heap.size + 1 = (w.alloc (.cells #[.int .i64 R, .int .i64 C, .int .i64 K] 31)).heap.size by simp)
  have hbe2 := hbe1.alloc hbe1.size (.cells #[.slice a0 n0 c0, .slice a1 n1 c1] 46)
  obtain ⟨V, hV⟩ : ∃ V, (w.alloc (.cells #[.int .i64 R, .int .i64 C, .int .i64 K] 31)).alloc (.cells #[.slice a0 n0 c0, .slice a1 n1 c1] 46) = V := ⟨_, rfl⟩
  rw [hV] at hB2 hB3 hbe2
  have HT := Lib.hid (And.intro hT (And.intro hF hZ))
  have HL := Lib.hid (hL.below (Nat.le_refl _) hbe2)
  have HX0 := Lib.hid (And.intro hn0 (And.intro hl0 (hX0.below (Nat.le_refl _) hbe2)))
  have HX1 := Lib.hid (And.intro hn1 (And.intro hl1 (hX1.below (Nat.le_refl _) hbe2)))
  have HN := Lib.hid (And.intro hln hl)
  have HB2 := Lib.hid hB2
  have HB3 := Lib.hid hB3
  have HBE0 := Lib.hid hbe2
  have q0 := Blk.cell (hB2) 0 (v := .int .i64 R) rfl
  have q1 := Blk.cell (hB2) 1 (v := .int .i64 C) rfl
  have q2 := Blk.cell (hB2) 2 (v := .int .i64 K) rfl
  have ks := sure_any R C K la ln lc l V (hF.be hbe2) hln hl HL.out
  clear hB1 hbe1 hB2 hB3 hbe2 hT hF hZ hln hl hL hn0 hl0 hX0 hn1 hl1 hX1
  by_cases hs : sureB R C K l = true
  · rw [hs] at ks
    unfold sureB at hs
    simp only [Bool.and_eq_true, decide_eq_true_eq] at hs
    obtain ⟨_, ho, h256, h20⟩ := hs
    rw [HN.out.1] at h20
    subst h256
    have HO := Lib.hid ho
    clear ho
    go_enter Tryz.func4, Tryz.ntmps4
    go_wp2_with fail
    (with_reducible refine (ks).mono ?_); rintro e1 W1 ⟨rfl, hb1⟩
    have HB1 := Lib.hid (HBE0.out.trans (hb1.mono HBE0.out.size))
    have HV1 := Lib.hid hb1
    have hbk1 := Blk.below HB2.out hb1 HB2.out.lt
    have hbk3 := Blk.below HB3.out hb1 HB3.out.lt
    have e0 := Blk.cell (hbk1) 0 (v := .int .i64 256) rfl
    have e1 := Blk.cell (hbk1) 1 (v := .int .i64 C) rfl
    have e2 := Blk.cell (hbk1) 2 (v := .int .i64 K) rfl
    have f0 := Blk.cell (hbk3) 0 (v := .slice a0 n0 c0) rfl
    have f1 := Blk.cell (hbk3) 1 (v := .slice a1 n1 c1) rfl
    have HBK3 := Lib.hid hbk3
    clear ks hb1 hbk1 hbk3 q0 q1 q2
    have kw := few_any a0 a1 n0 c0 n1 c1 W1 HX0.out.2.1 HX1.out.2.1
    by_cases hfw : n0 ≤ 60 ∧ n1 ≤ 20
    · rw [decide_eq_true hfw] at kw
      clear hfw
      go_wp2_with fail
      (with_reducible refine (kw).mono ?_); rintro e1 W1b ⟨rfl, hb1b⟩
      have HB1b := Lib.hid (HB1.out.trans (hb1b.mono HB1.out.size))
      have HV1b := Lib.hid (HV1.out.trans (hb1b.mono HV1.out.size))
      have hbk1b := Blk.below HB2.out HV1b.out HB2.out.lt
      have y0 := Blk.cell (hbk1b) 0 (v := .int .i64 256) rfl
      have y1 := Blk.cell (hbk1b) 1 (v := .int .i64 C) rfl
      have y2 := Blk.cell (hbk1b) 2 (v := .int .i64 K) rfl
      have HBK3b := Lib.hid (Blk.below HBK3.out hb1b HBK3.out.lt)
      clear kw e0 e1 e2 f0 f1 HBK3 HB1 HV1 hbk1b hb1b
      have HB1 := HB1b
      have HV1 := HV1b
      have HBK3 := HBK3b
      have kf := filled_any 256 C K la ln lc l W1b (HT.out.2.1.be HB1.out) HN.out.1 h20 (HL.out.below (Nat.le_refl _) HV1.out) HO.out rfl
      go_wp2_with fail
      (with_reducible refine (kf).mono ?_); rintro e1 W2 ⟨⟨c, k, gf, gr, v, rfl, rfl, hc, hk, rfl, hf2⟩, hb2⟩
      have HB2' := Lib.hid (HB1.out.trans (hb2.mono HB1.out.size))
      have HW2 := Lib.hid hb2
      have HMK := Lib.hid (frK_mk hc hk l (by rw [HN.out.1]; exact h20))
      have HFS0 := Lib.hid (fun h0 => BoA.frs_of hc hk l (by rw [HN.out.1]; exact h20) h0)
      have HFK := Lib.hid (frK_R 256 c k l l.length).2.2
      obtain ⟨F, hF⟩ : ∃ F, frK 256 c k l l.length = F := ⟨_, rfl⟩
      rw [hF] at hf2 HMK HFS0 HFK
      have HF2 := Lib.hid hf2
      clear kf hb2 hF hf2 y0 y1 y2
      go_wp2_with fail
      by_cases h0 : F.L.length = 0
      · have km := make_none W2 W1b.heap.size gf gr v F 7 HF2.out (HMK.out.zero h0)
        have ku := used_any W2 W1b.heap.size gf gr v F HF2.out
        rw [HMK.out.zero h0] at ku
        have HBE := HB2'
        clear h0
        (with_reducible refine (km).mono ?_); rintro e1 W5 ⟨rfl, rfl⟩
        go_wp2_with fail
        (with_reducible refine (ku).mono ?_); rintro e1 W5 ⟨rfl, rfl⟩
        clear km ku
        have HTA := Lib.hid (awake_any W2 (HT.out.1.be HBE.out) (HT.out.2.1.be HBE.out))
        go_wp2_with fail
        (with_reducible refine (HTA.out).mono ?_); rintro e1 W9 ⟨rfl, hb9⟩
        have hE := HBE.out.trans (hb9.mono HBE.out.size)
        go_wp2_with fail
        go_ret
        exact ⟨rfl, hE⟩
      · skip
        have km := make_any W2 W1b.heap.size gf gr v F 7 (HT.out.1.be HB2'.out) (HT.out.1.be HB1.out).lt HF2.out HMK.out.ok HMK.out.K HMK.out.good h0 (HMK.out.pos h0) HMK.out.col
        have HFS := Lib.hid (HFS0.out h0)
        clear h0
        go_wp2_with fail
        (with_reducible refine (km).mono ?_); rintro e1 W5 hM
        obtain ⟨vm, rfl, hm⟩ := hM.ok ⟨by decide, by decide⟩
        have hml := mkL_len F 7
        obtain ⟨N, hN⟩ : ∃ N, (mkL F 7).length = N := ⟨_, rfl⟩
        rw [hN] at hm hml
        obtain ⟨ma0, mc, rfl, hsl⟩ := own_slc hm hN
        have hN84 : N ≤ 84 := by have := HMK.out.n; omega
        have hN0 : N ≠ 0 := by have := HFS.out.n0; omega
        have HNN := Lib.hid hN
        have HNL := Lib.hid hml
        obtain ⟨mb, mo, rfl⟩ : ∃ mb mo, ma0 = some ⟨mb, mo, none⟩ := by
          cases ma0 with
          | none => exact absurd (hsl.nil rfl).1 hN0
          | some a' => obtain ⟨b, o, e⟩ := hsl.form a' rfl; exact ⟨b, o, by rw [e]⟩
        have hW5 := HW2.out.trans (hM.kept.be (B := W1b.heap.size) HW2.out.size (fun i hi => (HF2.out.ge i hi).1))
        have HFR := Lib.hid hM.fr
        have hV5 := HV1.out.trans (hW5.mono HV1.out.size)
        have HV5 := Lib.hid hV5
        have HB5 := Lib.hid (HB1.out.trans (hW5.mono HB1.out.size))
        have hbk5 := Blk.below HBK3.out hW5 HBK3.out.lt
        have h0 := Blk.cell (hbk5) 0 (v := .slice a0 n0 c0) rfl
        have h1 := Blk.cell (hbk5) 1 (v := .slice a1 n1 c1) rfl
        have kg := gathered_any F a0 a1 n0 c0 n1 c1 mb mo mc N x0 x1 W5 HFS.out (HT.out.1.be HB5.out) (HT.out.2.2.be HB5.out) HX0.out.1 HX0.out.2.1 (HX0.out.2.2.below (Nat.le_refl _) hV5) HX1.out.1 HX1.out.2.1 (HX1.out.2.2.below (Nat.le_refl _) hV5) hN hsl.s
        obtain ⟨tk, htk⟩ : ∃ tk, (fun j => decide (j < N) && tkB x1 x0 (mkL F 7) j) = tk := ⟨_, rfl⟩
        have HTK : Hid (∀ j, tk j = true → j < N) := Lib.hid (fun j h => by rw [← htk, Bool.and_eq_true, decide_eq_true_eq] at h; exact h.1)
        rw [htk] at kg
        clear km hM hm hml hsl hN hW5 hV5 hbk5 htk
        go_wp2_with fail
        (with_reducible refine (kg).mono ?_); rintro e1 W6 ⟨⟨T, tv, ov, hKT, rfl, hown1, hown2⟩, hb6⟩
        obtain ⟨tva, tvc, hvf⟩ := own_form hown1
        subst hvf
        obtain ⟨ova, ovc, hvf⟩ := own_form hown2
        subst hvf
        obtain ⟨M, hMO, hMF⟩ := mended_out HFS.out hKT
        have HKT := Lib.hid hKT
        have HMO := Lib.hid hMO
        have HMF := Lib.hid hMF
        obtain ⟨S, hS⟩ : ∃ S, mdS T (rowC F) 256 = S := ⟨_, rfl⟩
        rw [hS] at hown2 HMO ⊢
        rw [HMO.out.out] at hown2 ⊢
        rw [List.length_map] at hown2 ⊢
        obtain ⟨cm, hcm⟩ : ∃ z, cntM T 256 = z := ⟨_, rfl⟩
        obtain ⟨cf, hcf⟩ : ∃ z, cntF T 256 = z := ⟨_, rfl⟩
        have hcf9 : cf ≤ 256 := by rw [← hcf]; exact cntF_le T 256
        have HCF := Lib.hid hcf
        rw [hcm, hcf]
        rw [hcf] at HMF
        obtain ⟨dn, hdn⟩ : ∃ z, M.length = z := ⟨_, rfl⟩
        have HDN := Lib.hid hdn
        rw [hdn] at hown2 ⊢
        obtain ⟨m, hm⟩ : ∃ z, F.L.length = z := ⟨_, rfl⟩
        have HM := Lib.hid hm
        have hm20 : m ≤ 20 := by have := HMK.out.n; omega
        have hdm : dn ≤ m := by rw [← hdn, ← hm]; exact HMO.out.sub.length_le
        have hbk7 := Blk.new W6 52 #[.slice tva N tvc, .slice ova dn ovc, .int .i64 (cm : Int), .int .i64 (cf : Int), .bool true]
        have hb7 := hb6.alloc hb6.size (.cells #[.slice tva N tvc, .slice ova dn ovc, .int .i64 (cm : Int), .int .i64 (cf : Int), .bool true] 52)
        have hw67 := (Below.refl W6.heap.size W6).alloc (Nat.le_refl _) (.cells #[.slice tva N tvc, .slice ova dn ovc, .int .i64 (cm : Int), .int .i64 (cf : Int), .bool true] 52)
        have g0 := Blk.cell (hbk7) 0 (v := .slice tva N tvc) rfl
        have g1 := Blk.cell (hbk7) 1 (v := .slice ova dn ovc) rfl
        have g2 := Blk.cell (hbk7) 2 (v := .int .i64 (cm : Int)) rfl
        have g3 := Blk.cell (hbk7) 3 (v := .int .i64 (cf : Int)) rfl
        have g4 := Blk.cell (hbk7) 4 (v := .bool true) rfl
        have HB7 := Lib.hid (HB5.out.trans (hb7.mono HB5.out.size))
        have HV7 := Lib.hid (HV5.out.trans (hb7.mono HV5.out.size))
        have ho1 := own_below hown1 hw67
        have ho2 := own_below hown2 hw67
        have hf7 := HFR.out.below hb7
        obtain ⟨W7, hW7⟩ : ∃ W7, W6.alloc (.cells #[.slice tva N tvc, .slice ova dn ovc, .int .i64 (cm : Int), .int .i64 (cf : Int), .bool true] 52) = W7 := ⟨_, rfl⟩
        rw [hW7] at hbk7 g0 g1 g2 g3 g4 HB7 HV7 ho1 ho2 hf7
        have kp := placed_any W7 W1b.heap.size gf gr v (parS F (64 - F.K)) hf7 (FrC.par_ok HMK.out.ok _)
        rw [(parS_same F (64 - F.K)).1, hm] at kp
        have HBK7 := Lib.hid hbk7
        have HO1 := Lib.hid ho1
        have HO2 := Lib.hid ho2
        clear kg h0 h1 hb6 hown1 hown2 hKT hMO hMF hS hcm hcf hdn hm hbk7 hb7 hw67 ho1 ho2 hf7
        go_wp2_with fail
        (with_reducible refine (kp).mono ?_); rintro e1 W8 ⟨hb8, vp, rfl, hpl⟩
        obtain ⟨pa, pc, hvf⟩ := own_form hpl
        subst hvf
        have HB8 := Lib.hid (HB7.out.trans (hb8.mono HB7.out.size))
        have HV8 := Lib.hid (HV7.out.trans (hb8.mono HV7.out.size))
        have HGB := Lib.hid (Blk.below HBK7.out hb8 HBK7.out.lt)
        have HSP := Lib.hid (own_seq enPd_len hpl HM.out)
        have HST := Lib.hid (own_seq (en := enB) (sz := 1) (fun _ => rfl) (own_below HO1.out hb8) (by simp))
        have HSO := Lib.hid (own_seq (en := enPl S) (sz := 2) (fun _ => rfl) (own_below HO2.out hb8) (by rw [List.length_map]; exact HDN.out))
        clear kp hb8 hpl g0 g1 g2 g3 g4 hW7 HO1 HO2 HBK7
        go_wp2_with fail
        go_loopw [12, 13] (fun sv iv W => ∃ i : Nat, i ≤ m ∧ sv = .bool (shB F.L i) ∧ iv = .int .i64 i ∧ Below W8.heap.size W8 W) (fun _ iv _ => m - (intOf iv).toNat)
        case atStart => exact ⟨0, by omega, by unfold shB; simp, rfl, Below.refl _ _⟩
        case round =>
          obtain ⟨i, hi, rfl, rfl, hbe⟩ := hrel
          have i0 : (0 : Int) ≤ (i : Int) := Int.natCast_nonneg _
          obtain ⟨sb, hsb⟩ : ∃ b, shB F.L i = b := ⟨_, rfl⟩
          have HSB0 := Lib.hid hsb
          rw [hsb]
          clear hsb
          by_cases hin : i < m
          · have t3 : decide ((i : Int) < (m : Int)) = true := decide_eq_true (by omega)
            have t3' : decide (i < m) = true := decide_eq_true hin
            have i1 : (i : Int) < (m : Int) := by omega
            obtain ⟨z, hz⟩ : ∃ z, F.L[i]? = some z := ⟨_, List.getElem?_eq_getElem (by rw [HM.out]; exact hin)⟩
            obtain ⟨b1, o1, rfl, hlt1, hc1⟩ := HSP.out i z hz
            rw [off_eq] at hc1
            have p2 := (World.cell?_of_block (a := ⟨b1, o1 + i * 2 + 1, none⟩) (hbe.block b1 hlt1)).trans (hc1 1 (.string z.2) rfl)
            have HSS := Lib.hid (shB_step hz)
            rw [HSB0.out] at HSS
            obtain ⟨q, d⟩ := z
            dsimp only at p2 HSS
            clear hz hc1 hlt1 HSB0
            cases sb with
            | true =>
              by_cases hd : d.size ≤ 256
              · have t4 : decide ((d.size : Int) ≤ 256) = true := decide_eq_true (by omega)
                have t4' : decide (d.size ≤ 256) = true := decide_eq_true hd
                have HS2 := Lib.hid (show shB F.L (i + 1) = true by rw [HSS.out, t4']; rfl)
                clear hd HSS
                go_wp2_with fail
                go_roundw
                case rel => exact ⟨i + 1, by omega, by rw [HS2.out], by go_num, hbe⟩
                case measure => simp [intOf] <;> omega
              · have t4 : decide ((d.size : Int) ≤ 256) = false := decide_eq_false (by omega)
                have t4' : decide (d.size ≤ 256) = false := decide_eq_false hd
                have HS2 := Lib.hid (show shB F.L (i + 1) = false by rw [HSS.out, t4']; rfl)
                clear hd HSS
                go_wp2_with fail
                go_roundw
                case rel => exact ⟨i + 1, by omega, by rw [HS2.out], by go_num, hbe⟩
                case measure => simp [intOf] <;> omega
            | false =>
              have HS2 := Lib.hid (show shB F.L (i + 1) = false by rw [HSS.out]; rfl)
              clear HSS
              go_wp2_with fail
              go_roundw
              case rel => exact ⟨i + 1, by omega, by rw [HS2.out], by go_num, hbe⟩
              case measure => simp [intOf] <;> omega
          · obtain rfl : m = i := by omega
            have t3 : decide ((m : Int) < (m : Int)) = false := decide_eq_false (by omega)
            have t3' : decide (m < m) = false := decide_eq_false (by omega)
            have HSB : Hid (shB F.L F.L.length = sb) := Lib.hid (by rw [HM.out]; exact HSB0.out)
            go_wp2_with fail
            go_loopw [14, 15] (fun lv iv W => ∃ i : Nat, i ≤ N ∧ lv = .int .i64 (loN tk i : Nat) ∧ iv = .int .i64 i ∧ Below W8.heap.size W8 W) (fun _ iv _ => N - (intOf iv).toNat)
            case atStart => exact ⟨0, by omega, rfl, rfl, hbe⟩
            case round =>
              clear hbe
              obtain ⟨i, hi, rfl, rfl, hbe⟩ := hrel
              have i0 : (0 : Int) ≤ (i : Int) := Int.natCast_nonneg _
              have hgb := Blk.below HGB.out hbe HGB.out.lt
              have l0 : (0 : Int) ≤ (loN tk i : Int) := Int.natCast_nonneg _
              have l1 : (loN tk i : Int) ≤ 84 := by have := loN_le tk i; omega
              have HLS := Lib.hid (loN_step tk i)
              by_cases hin : i < N
              · have t3 : decide ((i : Int) < (N : Int)) = true := decide_eq_true (by omega)
                have t3' : decide (i < N) = true := decide_eq_true hin
                have i1 : (i : Int) < (N : Int) := by omega
                have g0 := Blk.cell (hgb) 0 (v := .slice tva N tvc) rfl
                have g1 := Blk.cell (hgb) 1 (v := .slice ova dn ovc) rfl
                have g2 := Blk.cell (hgb) 2 (v := .int .i64 (cm : Int)) rfl
                have g3 := Blk.cell (hgb) 3 (v := .int .i64 (cf : Int)) rfl
                have g4 := Blk.cell (hgb) 4 (v := .bool true) rfl
                clear hgb
                obtain ⟨b3, o3, rfl, hlt3, hc3⟩ := HST.out i (tk i) (by rw [List.getElem?_map, List.getElem?_range hin]; rfl)
                have p3 : W8.cell? ⟨b3, o3 + i, none⟩ = some (.bool (tk i)) := hc3 0 _ rfl
                have u9 := (World.cell?_of_block (a := ⟨b3, o3 + i, none⟩) (hbe.block b3 hlt3)).trans p3
                obtain ⟨lo, hlo⟩ : ∃ z, loN tk i = z := ⟨_, rfl⟩
                rw [hlo] at l0 l1 HLS ⊢
                obtain ⟨bt, hbt⟩ : ∃ b, tk i = b := ⟨_, rfl⟩
                rw [hbt] at u9 HLS
                clear hc3 p3 hlo hbt
                cases bt with
                | true =>
                  have HL2 := Lib.hid (show loN tk (i + 1) = lo from HLS.out)
                  go_wp2_with fail
                  go_roundw
                  case rel => exact ⟨i + 1, by omega, by rw [HL2.out], by go_num, hbe⟩
                  case measure => simp [intOf] <;> omega
                | false =>
                  have HL2 := Lib.hid (show loN tk (i + 1) = lo + 1 from HLS.out)
                  go_wp2_with fail
                  go_roundw
                  case rel => exact ⟨i + 1, by omega, by rw [HL2.out]; go_num, by go_num, hbe⟩
                  case measure => simp [intOf] <;> omega
              · obtain rfl : N = i := by omega
                have t3 : decide ((N : Int) < (N : Int)) = false := decide_eq_false (by omega)
                have t3' : decide (N < N) = false := decide_eq_false (by omega)
                have g0 := Blk.cell (hgb) 0 (v := .slice tva N tvc) rfl
                have g1 := Blk.cell (hgb) 1 (v := .slice ova dn ovc) rfl
                have g2 := Blk.cell (hgb) 2 (v := .int .i64 (cm : Int)) rfl
                have g3 := Blk.cell (hgb) 3 (v := .int .i64 (cf : Int)) rfl
                have g4 := Blk.cell (hgb) 4 (v := .bool true) rfl
                have hcb := Blk.below HB2.out (HV8.out.trans (hbe.mono HV8.out.size)) HB2.out.lt
                have hcc := Blk.cell hcb 2 (v := .int .i64 (k : Int)) rfl
                have k64 : (k : Int) ≤ 64 := by have := HMK.out.K; rw [HFK.out] at this; omega
                have k00 : (0 : Int) ≤ (k : Int) := Int.natCast_nonneg _
                have HNF := Lib.hid (fun (h1 : shB F.L F.L.length = true) (h2 : loN tk N + k ≤ 63) => show cf = 0 by
                  rw [← HCF.out]
                  refine none_fails HFS.out HKT.out (fun x hx => ?_) ?_
                  · have := of_decide_eq_true h1
                    rw [List.take_length] at this
                    exact this x hx
                  · rw [← HNL.out, HFK.out]
                    exact h2)
                obtain ⟨lo, hlo⟩ : ∃ z, loN tk N = z := ⟨_, rfl⟩
                rw [hlo] at l0 l1 HNF ⊢
                clear hcb HLS hlo
                cases sb with
                | true =>
                  by_cases h63 : lo + k ≤ 63
                  · have t6 : decide ((lo : Int) + (k : Int) ≤ 63) = true := decide_eq_true (by omega)
                    have t6' : decide (lo + k ≤ 63) = true := decide_eq_true h63
                    obtain rfl : cf = 0 := HNF.out HSB.out h63
                    have t7 : (((0 : Nat) : Int) != 0) = false := by simp
                    clear h63 HNF
                    have HEQ := Lib.hid (HMF.out (by first | rfl | trivial))
                    obtain rfl : m = dn := by rw [← HM.out, ← HDN.out, HEQ.out]
                    have t8 : ((m : Int) != (m : Int)) = false := by simp
                    have g0 := Blk.cell (hgb) 0 (v := .slice tva N tvc) rfl
                    have g1 := Blk.cell (hgb) 1 (v := .slice ova m ovc) rfl
                    have g2 := Blk.cell (hgb) 2 (v := .int .i64 (cm : Int)) rfl
                    have g3 := Blk.cell (hgb) 3 (v := .int .i64 ((0 : Nat) : Int)) rfl
                    have g4 := Blk.cell (hgb) 4 (v := .bool true) rfl
                    have HBEW := Lib.hid hbe
                    clear hgb hbe
                    go_wp2_with fail
                    go_loopw [16] (fun iv W => ∃ i : Nat, i ≤ m ∧ iv = .int .i64 i ∧ Below W8.heap.size W8 W) (fun iv _ => m - (intOf iv).toNat)
                    case atStart => exact ⟨0, by omega, rfl, HBEW.out⟩
                    case round =>
                      clear g0 g1 g2 g3 g4
                      obtain ⟨i, hi, rfl, hbe⟩ := hrel
                      have i0 : (0 : Int) ≤ (i : Int) := Int.natCast_nonneg _
                      by_cases hin : i < m
                      · have hgb := Blk.below HGB.out hbe HGB.out.lt
                        have g0 := fun pX => Blk.cell (blk_ext (hgb) pX) 0 (v := .slice tva N tvc) rfl
                        have g1 := fun pX => Blk.cell (blk_ext (hgb) pX) 1 (v := .slice ova m ovc) rfl
                        have g2 := fun pX => Blk.cell (blk_ext (hgb) pX) 2 (v := .int .i64 (cm : Int)) rfl
                        have g3 := fun pX => Blk.cell (blk_ext (hgb) pX) 3 (v := .int .i64 ((0 : Nat) : Int)) rfl
                        have g4 := fun pX => Blk.cell (blk_ext (hgb) pX) 4 (v := .bool true) rfl
                        clear hgb
                        have t3 : decide ((i : Int) < (m : Int)) = true := decide_eq_true (by omega)
                        have t3' : decide (i < m) = true := decide_eq_true hin
                        have i1 : (i : Int) < (m : Int) := by omega
                        obtain ⟨z, hz⟩ : ∃ z, F.L[i]? = some z := ⟨_, List.getElem?_eq_getElem (by rw [HM.out]; exact hin)⟩
                        obtain ⟨b1, o1, rfl, hlt1, hc1⟩ := HSP.out i z hz
                        rw [off_eq] at hc1
                        have p1 := hc1 0 (.int .i64 (z.1 : Int)) rfl
                        have p2 := hc1 1 (.string z.2) rfl
                        have r1 := fun pX => (World.cell?_of_block (a := ⟨b1, o1 + i * 2, none⟩) ((hbe.trans ((below_ext wr pX).mono hbe.size)).block b1 hlt1)).trans p1
                        have r2 := fun pX => (World.cell?_of_block (a := ⟨b1, o1 + i * 2 + 1, none⟩) ((hbe.trans ((below_ext wr pX).mono hbe.size)).block b1 hlt1)).trans p2
                        clear hc1 p1 p2 hlt1
                        obtain ⟨y, hy⟩ : ∃ y, M[i]? = some y := ⟨_, List.getElem?_eq_getElem (by rw [HDN.out]; omega)⟩
                        obtain ⟨b2, o2, rfl, hlt2, hc2⟩ := HSO.out i (y.1, y.2.size) (by rw [List.getElem?_map, hy]; rfl)
                        rw [off_eq] at hc2
                        have p1 := hc2 0 (.int .i64 (y.1 : Int)) rfl
                        have p2 := hc2 1 (.string y.2) (by
                          show (enPl S (y.1, y.2.size))[1]? = _
                          rw [show enPl S (y.1, y.2.size) = [.int .i64 (y.1 : Int), .string (str (bytesL S y.1 y.2.size))] from rfl, HMO.out.txt y (List.mem_of_getElem? hy), str_bl]
                          rfl)
                        have r3 := fun pX => (World.cell?_of_block (a := ⟨b2, o2 + i * 2, none⟩) ((hbe.trans ((below_ext wr pX).mono hbe.size)).block b2 hlt2)).trans p1
                        have r4 := fun pX => (World.cell?_of_block (a := ⟨b2, o2 + i * 2 + 1, none⟩) ((hbe.trans ((below_ext wr pX).mono hbe.size)).block b2 hlt2)).trans p2
                        clear hc2 p1 p2 hlt2
                        obtain rfl : y = z := by rw [HEQ.out, hz] at hy; injection hy with hy; exact hy.symm
                        have t5 : ((y.1 : Int) == (y.1 : Int)) = true := beq_self_eq_true _
                        have t5' : ((y.1 : Int) != (y.1 : Int)) = false := by simp
                        have t6 : (y.2.toList == y.2.toList) = true := beq_self_eq_true _
                        clear hz hy
                        go_wp2_with fail
                        refine Go.Proofs.YthgcmlhmhojjhaaGreatDoor.Q.region_ext (by kernel_rfl) (by kernel_rfl) ?_
                        repeat (go_big_quiet_step (fail))
                        refine wpQuiet_nil ?_
                        rintro w9 ⟨pq, rfl⟩
                        have hbe9 := hbe.trans ((below_ext wr pq).mono hbe.size)
                        clear r1 r2 r3 r4 g0 g1 g2 g3 g4 hbe t5 t5' t6
                        go_wp2_with fail
                        go_roundw
                        case rel => exact ⟨i + 1, by omega, by go_num, hbe9⟩
                        case measure => simp [intOf] <;> omega
                      · obtain rfl : i = m := by omega
                        have t3 : decide ((i : Int) < (i : Int)) = false := decide_eq_false (by omega)
                        have t3' : decide (i < i) = false := decide_eq_false (by omega)
                        have HBE := Lib.hid (HB8.out.trans (hbe.mono HB8.out.size))
                        clear hbe
                        have HTA := Lib.hid (awake_any wr (HT.out.1.be HBE.out) (HT.out.2.1.be HBE.out))
                        go_wp2_with fail
                        (with_reducible refine (HTA.out).mono ?_); rintro e1 W9 ⟨rfl, hb9⟩
                        have hE := HBE.out.trans (hb9.mono HBE.out.size)
                        go_wp2_with fail
                        go_ret
                        exact ⟨rfl, hE⟩
                  · have t6 : decide ((lo : Int) + (k : Int) ≤ 63) = false := decide_eq_false (by omega)
                    have t6' : decide (lo + k ≤ 63) = false := decide_eq_false h63
                    clear h63 HNF
                    by_cases hcf : cf = 0
                    · subst hcf
                      have t7 : (((0 : Nat) : Int) != 0) = false := by simp
                      have HEQ := Lib.hid (HMF.out (by first | rfl | trivial))
                      obtain rfl : m = dn := by rw [← HM.out, ← HDN.out, HEQ.out]
                      have t8 : ((m : Int) != (m : Int)) = false := by simp
                      have g0 := Blk.cell (hgb) 0 (v := .slice tva N tvc) rfl
                      have g1 := Blk.cell (hgb) 1 (v := .slice ova m ovc) rfl
                      have g2 := Blk.cell (hgb) 2 (v := .int .i64 (cm : Int)) rfl
                      have g3 := Blk.cell (hgb) 3 (v := .int .i64 ((0 : Nat) : Int)) rfl
                      have g4 := Blk.cell (hgb) 4 (v := .bool true) rfl
                      have HBEW := Lib.hid hbe
                      clear hgb hbe
                      go_wp2_with fail
                      go_loopw [16] (fun iv W => ∃ i : Nat, i ≤ m ∧ iv = .int .i64 i ∧ Below W8.heap.size W8 W) (fun iv _ => m - (intOf iv).toNat)
                      case atStart => exact ⟨0, by omega, rfl, HBEW.out⟩
                      case round =>
                        clear g0 g1 g2 g3 g4
                        obtain ⟨i, hi, rfl, hbe⟩ := hrel
                        have i0 : (0 : Int) ≤ (i : Int) := Int.natCast_nonneg _
                        by_cases hin : i < m
                        · have hgb := Blk.below HGB.out hbe HGB.out.lt
                          have g0 := fun pX => Blk.cell (blk_ext (hgb) pX) 0 (v := .slice tva N tvc) rfl
                          have g1 := fun pX => Blk.cell (blk_ext (hgb) pX) 1 (v := .slice ova m ovc) rfl
                          have g2 := fun pX => Blk.cell (blk_ext (hgb) pX) 2 (v := .int .i64 (cm : Int)) rfl
                          have g3 := fun pX => Blk.cell (blk_ext (hgb) pX) 3 (v := .int .i64 ((0 : Nat) : Int)) rfl
                          have g4 := fun pX => Blk.cell (blk_ext (hgb) pX) 4 (v := .bool true) rfl
                          clear hgb
                          have t3 : decide ((i : Int) < (m : Int)) = true := decide_eq_true (by omega)
                          have t3' : decide (i < m) = true := decide_eq_true hin
                          have i1 : (i : Int) < (m : Int) := by omega
                          obtain ⟨z, hz⟩ : ∃ z, F.L[i]? = some z := ⟨_, List.getElem?_eq_getElem (by rw [HM.out]; exact hin)⟩
                          obtain ⟨b1, o1, rfl, hlt1, hc1⟩ := HSP.out i z hz
                          rw [off_eq] at hc1
                          have p1 := hc1 0 (.int .i64 (z.1 : Int)) rfl
                          have p2 := hc1 1 (.string z.2) rfl
                          have r1 := fun pX => (World.cell?_of_block (a := ⟨b1, o1 + i * 2, none⟩) ((hbe.trans ((below_ext wr pX).mono hbe.size)).block b1 hlt1)).trans p1
                          have r2 := fun pX => (World.cell?_of_block (a := ⟨b1, o1 + i * 2 + 1, none⟩) ((hbe.trans ((below_ext wr pX).mono hbe.size)).block b1 hlt1)).trans p2
                          clear hc1 p1 p2 hlt1
                          obtain ⟨y, hy⟩ : ∃ y, M[i]? = some y := ⟨_, List.getElem?_eq_getElem (by rw [HDN.out]; omega)⟩
                          obtain ⟨b2, o2, rfl, hlt2, hc2⟩ := HSO.out i (y.1, y.2.size) (by rw [List.getElem?_map, hy]; rfl)
                          rw [off_eq] at hc2
                          have p1 := hc2 0 (.int .i64 (y.1 : Int)) rfl
                          have p2 := hc2 1 (.string y.2) (by
                            show (enPl S (y.1, y.2.size))[1]? = _
                            rw [show enPl S (y.1, y.2.size) = [.int .i64 (y.1 : Int), .string (str (bytesL S y.1 y.2.size))] from rfl, HMO.out.txt y (List.mem_of_getElem? hy), str_bl]
                            rfl)
                          have r3 := fun pX => (World.cell?_of_block (a := ⟨b2, o2 + i * 2, none⟩) ((hbe.trans ((below_ext wr pX).mono hbe.size)).block b2 hlt2)).trans p1
                          have r4 := fun pX => (World.cell?_of_block (a := ⟨b2, o2 + i * 2 + 1, none⟩) ((hbe.trans ((below_ext wr pX).mono hbe.size)).block b2 hlt2)).trans p2
                          clear hc2 p1 p2 hlt2
                          obtain rfl : y = z := by rw [HEQ.out, hz] at hy; injection hy with hy; exact hy.symm
                          have t5 : ((y.1 : Int) == (y.1 : Int)) = true := beq_self_eq_true _
                          have t5' : ((y.1 : Int) != (y.1 : Int)) = false := by simp
                          have t6 : (y.2.toList == y.2.toList) = true := beq_self_eq_true _
                          clear hz hy
                          go_wp2_with fail
                          refine Go.Proofs.YthgcmlhmhojjhaaGreatDoor.Q.region_ext (by kernel_rfl) (by kernel_rfl) ?_
                          repeat (go_big_quiet_step (fail))
                          refine wpQuiet_nil ?_
                          rintro w9 ⟨pq, rfl⟩
                          have hbe9 := hbe.trans ((below_ext wr pq).mono hbe.size)
                          clear r1 r2 r3 r4 g0 g1 g2 g3 g4 hbe t5 t5' t6
                          go_wp2_with fail
                          go_roundw
                          case rel => exact ⟨i + 1, by omega, by go_num, hbe9⟩
                          case measure => simp [intOf] <;> omega
                        · obtain rfl : i = m := by omega
                          have t3 : decide ((i : Int) < (i : Int)) = false := decide_eq_false (by omega)
                          have t3' : decide (i < i) = false := decide_eq_false (by omega)
                          have HBE := Lib.hid (HB8.out.trans (hbe.mono HB8.out.size))
                          clear hbe
                          have HTA := Lib.hid (awake_any wr (HT.out.1.be HBE.out) (HT.out.2.1.be HBE.out))
                          go_wp2_with fail
                          (with_reducible refine (HTA.out).mono ?_); rintro e1 W9 ⟨rfl, hb9⟩
                          have hE := HBE.out.trans (hb9.mono HBE.out.size)
                          go_wp2_with fail
                          go_ret
                          exact ⟨rfl, hE⟩
                    · have t7 : ((cf : Int) != 0) = true := by simpa using hcf
                      have g0 := Blk.cell (hgb) 0 (v := .slice tva N tvc) rfl
                      have g1 := Blk.cell (hgb) 1 (v := .slice ova dn ovc) rfl
                      have g2 := Blk.cell (hgb) 2 (v := .int .i64 (cm : Int)) rfl
                      have g3 := Blk.cell (hgb) 3 (v := .int .i64 (cf : Int)) rfl
                      have g4 := Blk.cell (hgb) 4 (v := .bool true) rfl
                      have HBE := Lib.hid (HB8.out.trans (hbe.mono HB8.out.size))
                      clear hgb hbe hcf
                      have HTA := Lib.hid (awake_any wr (HT.out.1.be HBE.out) (HT.out.2.1.be HBE.out))
                      go_wp2_with fail
                      (with_reducible refine (HTA.out).mono ?_); rintro e1 W9 ⟨rfl, hb9⟩
                      have hE := HBE.out.trans (hb9.mono HBE.out.size)
                      go_wp2_with fail
                      go_ret
                      exact ⟨rfl, hE⟩
                | false =>
                  clear HNF
                  by_cases hcf : cf = 0
                  · subst hcf
                    have t7 : (((0 : Nat) : Int) != 0) = false := by simp
                    have HEQ := Lib.hid (HMF.out (by first | rfl | trivial))
                    obtain rfl : m = dn := by rw [← HM.out, ← HDN.out, HEQ.out]
                    have t8 : ((m : Int) != (m : Int)) = false := by simp
                    have g0 := Blk.cell (hgb) 0 (v := .slice tva N tvc) rfl
                    have g1 := Blk.cell (hgb) 1 (v := .slice ova m ovc) rfl
                    have g2 := Blk.cell (hgb) 2 (v := .int .i64 (cm : Int)) rfl
                    have g3 := Blk.cell (hgb) 3 (v := .int .i64 ((0 : Nat) : Int)) rfl
                    have g4 := Blk.cell (hgb) 4 (v := .bool true) rfl
                    have HBEW := Lib.hid hbe
                    clear hgb hbe
                    go_wp2_with fail
                    go_loopw [16] (fun iv W => ∃ i : Nat, i ≤ m ∧ iv = .int .i64 i ∧ Below W8.heap.size W8 W) (fun iv _ => m - (intOf iv).toNat)
                    case atStart => exact ⟨0, by omega, rfl, HBEW.out⟩
                    case round =>
                      clear g0 g1 g2 g3 g4
                      obtain ⟨i, hi, rfl, hbe⟩ := hrel
                      have i0 : (0 : Int) ≤ (i : Int) := Int.natCast_nonneg _
                      by_cases hin : i < m
                      · have hgb := Blk.below HGB.out hbe HGB.out.lt
                        have g0 := fun pX => Blk.cell (blk_ext (hgb) pX) 0 (v := .slice tva N tvc) rfl
                        have g1 := fun pX => Blk.cell (blk_ext (hgb) pX) 1 (v := .slice ova m ovc) rfl
                        have g2 := fun pX => Blk.cell (blk_ext (hgb) pX) 2 (v := .int .i64 (cm : Int)) rfl
                        have g3 := fun pX => Blk.cell (blk_ext (hgb) pX) 3 (v := .int .i64 ((0 : Nat) : Int)) rfl
                        have g4 := fun pX => Blk.cell (blk_ext (hgb) pX) 4 (v := .bool true) rfl
                        clear hgb
                        have t3 : decide ((i : Int) < (m : Int)) = true := decide_eq_true (by omega)
                        have t3' : decide (i < m) = true := decide_eq_true hin
                        have i1 : (i : Int) < (m : Int) := by omega
                        obtain ⟨z, hz⟩ : ∃ z, F.L[i]? = some z := ⟨_, List.getElem?_eq_getElem (by rw [HM.out]; exact hin)⟩
                        obtain ⟨b1, o1, rfl, hlt1, hc1⟩ := HSP.out i z hz
                        rw [off_eq] at hc1
                        have p1 := hc1 0 (.int .i64 (z.1 : Int)) rfl
                        have p2 := hc1 1 (.string z.2) rfl
                        have r1 := fun pX => (World.cell?_of_block (a := ⟨b1, o1 + i * 2, none⟩) ((hbe.trans ((below_ext wr pX).mono hbe.size)).block b1 hlt1)).trans p1
                        have r2 := fun pX => (World.cell?_of_block (a := ⟨b1, o1 + i * 2 + 1, none⟩) ((hbe.trans ((below_ext wr pX).mono hbe.size)).block b1 hlt1)).trans p2
                        clear hc1 p1 p2 hlt1
                        obtain ⟨y, hy⟩ : ∃ y, M[i]? = some y := ⟨_, List.getElem?_eq_getElem (by rw [HDN.out]; omega)⟩
                        obtain ⟨b2, o2, rfl, hlt2, hc2⟩ := HSO.out i (y.1, y.2.size) (by rw [List.getElem?_map, hy]; rfl)
                        rw [off_eq] at hc2
                        have p1 := hc2 0 (.int .i64 (y.1 : Int)) rfl
                        have p2 := hc2 1 (.string y.2) (by
                          show (enPl S (y.1, y.2.size))[1]? = _
                          rw [show enPl S (y.1, y.2.size) = [.int .i64 (y.1 : Int), .string (str (bytesL S y.1 y.2.size))] from rfl, HMO.out.txt y (List.mem_of_getElem? hy), str_bl]
                          rfl)
                        have r3 := fun pX => (World.cell?_of_block (a := ⟨b2, o2 + i * 2, none⟩) ((hbe.trans ((below_ext wr pX).mono hbe.size)).block b2 hlt2)).trans p1
                        have r4 := fun pX => (World.cell?_of_block (a := ⟨b2, o2 + i * 2 + 1, none⟩) ((hbe.trans ((below_ext wr pX).mono hbe.size)).block b2 hlt2)).trans p2
                        clear hc2 p1 p2 hlt2
                        obtain rfl : y = z := by rw [HEQ.out, hz] at hy; injection hy with hy; exact hy.symm
                        have t5 : ((y.1 : Int) == (y.1 : Int)) = true := beq_self_eq_true _
                        have t5' : ((y.1 : Int) != (y.1 : Int)) = false := by simp
                        have t6 : (y.2.toList == y.2.toList) = true := beq_self_eq_true _
                        clear hz hy
                        go_wp2_with fail
                        refine Go.Proofs.YthgcmlhmhojjhaaGreatDoor.Q.region_ext (by kernel_rfl) (by kernel_rfl) ?_
                        repeat (go_big_quiet_step (fail))
                        refine wpQuiet_nil ?_
                        rintro w9 ⟨pq, rfl⟩
                        have hbe9 := hbe.trans ((below_ext wr pq).mono hbe.size)
                        clear r1 r2 r3 r4 g0 g1 g2 g3 g4 hbe t5 t5' t6
                        go_wp2_with fail
                        go_roundw
                        case rel => exact ⟨i + 1, by omega, by go_num, hbe9⟩
                        case measure => simp [intOf] <;> omega
                      · obtain rfl : i = m := by omega
                        have t3 : decide ((i : Int) < (i : Int)) = false := decide_eq_false (by omega)
                        have t3' : decide (i < i) = false := decide_eq_false (by omega)
                        have HBE := Lib.hid (HB8.out.trans (hbe.mono HB8.out.size))
                        clear hbe
                        have HTA := Lib.hid (awake_any wr (HT.out.1.be HBE.out) (HT.out.2.1.be HBE.out))
                        go_wp2_with fail
                        (with_reducible refine (HTA.out).mono ?_); rintro e1 W9 ⟨rfl, hb9⟩
                        have hE := HBE.out.trans (hb9.mono HBE.out.size)
                        go_wp2_with fail
                        go_ret
                        exact ⟨rfl, hE⟩
                  · have t7 : ((cf : Int) != 0) = true := by simpa using hcf
                    have g0 := Blk.cell (hgb) 0 (v := .slice tva N tvc) rfl
                    have g1 := Blk.cell (hgb) 1 (v := .slice ova dn ovc) rfl
                    have g2 := Blk.cell (hgb) 2 (v := .int .i64 (cm : Int)) rfl
                    have g3 := Blk.cell (hgb) 3 (v := .int .i64 (cf : Int)) rfl
                    have g4 := Blk.cell (hgb) 4 (v := .bool true) rfl
                    have HBE := Lib.hid (HB8.out.trans (hbe.mono HB8.out.size))
                    clear hgb hbe hcf
                    have HTA := Lib.hid (awake_any wr (HT.out.1.be HBE.out) (HT.out.2.1.be HBE.out))
                    go_wp2_with fail
                    (with_reducible refine (HTA.out).mono ?_); rintro e1 W9 ⟨rfl, hb9⟩
                    have hE := HBE.out.trans (hb9.mono HBE.out.size)
                    go_wp2_with fail
                    go_ret
                    exact ⟨rfl, hE⟩
    · rw [decide_eq_false hfw] at kw
      clear hfw
      go_wp2_with fail
      (with_reducible refine (kw).mono ?_); rintro e1 W2 ⟨rfl, hb2⟩
      have HBE := Lib.hid (HB1.out.trans (hb2.mono HB1.out.size))
      clear kw hb2 e0 e1 e2 f0 f1
      have HTA := Lib.hid (awake_any W2 (HT.out.1.be HBE.out) (HT.out.2.1.be HBE.out))
      go_wp2_with fail
      (with_reducible refine (HTA.out).mono ?_); rintro e1 W9 ⟨rfl, hb9⟩
      have hE := HBE.out.trans (hb9.mono HBE.out.size)
      go_wp2_with fail
      go_ret
      exact ⟨rfl, hE⟩
  · have hs' : sureB R C K l = false := by simpa using hs
    rw [hs'] at ks
    clear hs hs'
    go_enter Tryz.func4, Tryz.ntmps4
    go_wp2_with fail
    (with_reducible refine (ks).mono ?_); rintro e1 W1 ⟨rfl, hb1⟩
    have HBE := Lib.hid (HBE0.out.trans (hb1.mono HBE0.out.size))
    clear ks hb1 q0 q1 q2
    have HTA := Lib.hid (awake_any W1 (HT.out.1.be HBE.out) (HT.out.2.1.be HBE.out))
    go_wp2_with fail
    (with_reducible refine (HTA.out).mono ?_); rintro e1 W9 ⟨rfl, hb9⟩
    have hE := HBE.out.trans (hb9.mono HBE.out.size)
    go_wp2_with fail
    go_ret
    exact ⟨rfl, hE⟩
end Go.Proofs.YthgcmlhmhojjhaaGreatDoor.BbA
