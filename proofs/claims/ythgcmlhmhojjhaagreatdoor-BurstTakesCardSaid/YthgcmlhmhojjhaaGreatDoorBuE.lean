/- burst: joined, Make. -/
import Derived.Test.YthgcmlhmhojjhaaGreatDoorBuD
namespace Go.Proofs.YthgcmlhmhojjhaaGreatDoor.BuE
open Go Go.RowKit Go.Proofs.YthgcmlhmhojjhaaGreatDoor.Q Go.Proofs.YthgcmlhmhojjhaaGreatDoor.Mem Go.Proofs.YthgcmlhmhojjhaaGreatDoor.Rg Go.Proofs.YthgcmlhmhojjhaaGreatDoor.Ap Go.Proofs.YthgcmlhmhojjhaaGreatDoor.St Go.Proofs.YthgcmlhmhojjhaaGreatDoor.CrB Go.Proofs.YthgcmlhmhojjhaaGreatDoor.Tab Go.Proofs.YthgcmlhmhojjhaaGreatDoor.TmA Go.Proofs.YthgcmlhmhojjhaaGreatDoor.TbM Go.Proofs.YthgcmlhmhojjhaaGreatDoor.FrA Go.Proofs.YthgcmlhmhojjhaaGreatDoor.FrB Go.Proofs.YthgcmlhmhojjhaaGreatDoor.FrC Go.Proofs.YthgcmlhmhojjhaaGreatDoor.BuC Go.Proofs.YthgcmlhmhojjhaaGreatDoor.BuD

/-- where an owned row lies -/
structure Slc (w : World) (a : Option Addr) (n c : Nat) (L : List ByteArray) : Prop where
  s : Seq enS 1 w a L
  len : L.length = n
  nil : a = none → n = 0 ∧ c = 0
  form : ∀ a', a = some a' → ∃ b o, a' = ⟨b, o, none⟩
theorem enS_one (x : ByteArray) : (enS x).length = 1 := rfl
theorem enS_cell (x : ByteArray) : ∀ u ∈ enS x, u.oneCell' = true := fun u hu => by
  obtain rfl := List.mem_singleton.1 hu
  rfl
theorem own_slc {w : World} {B n : Nat} {v : Value} {L : List ByteArray} (h : w.ownsRow B 9 1 v n (flat enS L)) (hn : L.length = n) : ∃ a c, v = .slice a n c ∧ Slc w a n c L := by
  obtain ⟨a, c, rfl⟩ := own_form h
  refine ⟨a, c, rfl, own_seq enS_one h hn, hn, fun ha => ?_, fun a' ha => ?_⟩
  · rcases h.2 with ⟨e, e0⟩ | ⟨g, cap, cur, e, _⟩
    · injection e with _ _ e2
      exact ⟨e0, e2⟩
    · injection e with e1
      rw [ha] at e1; cases e1
  · rcases h.2 with ⟨e, _⟩ | ⟨g, cap, cur, e, _⟩
    · injection e with e1
      rw [ha] at e1; cases e1
    · injection e with e1
      rw [ha] at e1
      injection e1 with e1
      exact ⟨g, 0, e1⟩
theorem Slc.below {w w' : World} {a : Option Addr} {n c : Nat} {L : List ByteArray} (h : Slc w a n c L) (hb : Below w.heap.size w w') : Slc w' a n c L := ⟨h.s.below (Nat.le_refl _) hb, h.len, h.nil, h.form⟩
set_option maxRecDepth 100000
set_option maxHeartbeats 1600000 in
theorem joined_any (g : Nat) (a1 a2 : Option Addr) (n1 c1 n2 c2 : Nat) (L1 L2 : List ByteArray) (w : World) (hb : Blk w g 33 #[.slice a1 n1 c1, .slice a2 n2 c2]) (h1 : Slc w a1 n1 c1 L1) (h2 : Slc w a2 n2 c2 L2) (hl : n1 ≤ 1000000) (hl2 : n2 ≤ 1000000) :
    Calls Tryz.prog 30 #[.slice (some ⟨g, 0, none⟩) 2 2] w fun e w' => Below w.heap.size w w' ∧ ∃ v', e = .returned v' ∧ w'.ownsRow w.heap.size 9 1 v' (n1 + n2) (flat enS (L1 ++ L2)) := by
  obtain ⟨R, hR⟩ : ∃ R : Ending → World → Prop, R = (fun e w' => Below w.heap.size w w' ∧ ∃ v', e = .returned v' ∧ w'.ownsRow w.heap.size 9 1 v' (n1 + n2) (flat enS (L1 ++ L2))) := ⟨_, rfl⟩
  rw [← hR]
  have HR := Lib.hid hR
  have H1 := Lib.hid h1
  have H2 := Lib.hid h2
  have HB := Lib.hid hb
  have d0 := Blk.cell (hb) 0 (v := .slice a1 n1 c1) rfl
  have d1 := Blk.cell (hb) 1 (v := .slice a2 n2 c2) rfl
  clear h1 h2 hR hb
  go_enter Tryz.func30, Tryz.ntmps30
  go_wp2_with fail
  refine wp_loop_rounds 3 ?_
  rw [rounds_succ]
  go_wp2_with (at_builtin; refine wpList_appS (en := enS) (A := []) (L := L1) (n := 0) (base := w.heap.size) rfl _ _ rfl enS_one enS_cell elemS rfl rfl (World.ownsRow_nil _ _ _ _) rfl H1.out.len H1.out.nil H1.out.s H1.out.form (by omega) (by unfold maxLen; omega) (Nat.le_refl _) ?_)
  intro v1 w1 hown1 hb1
  have HO1 := Lib.hid hown1
  have HB1 := Lib.hid hb1
  have e1 := Blk.cell (Blk.below HB.out hb1 (Blk.lt HB.out)) 1 (v := .slice a2 n2 c2) rfl
  obtain ⟨x1, y1, rfl⟩ := own_form hown1
  clear hown1 hb1 d0 d1
  go_wp2_with fail
  rw [rounds_succ]
  have hz := HB1.out.size
  go_wp2_with (at_builtin; go_loud (refine wpList_appS (en := enS) (A := L1) (L := L2) (base := w.heap.size) rfl _ _ rfl enS_one enS_cell elemS rfl H1.out.len HO1.out rfl H2.out.len H2.out.nil (H2.out.below HB1.out).s H2.out.form (by omega) (by unfold maxLen; omega) hz ?_))
  intro v2 w2 hown2 hb2
  obtain ⟨x2, y2, rfl⟩ := own_form hown2
  have HO2 := Lib.hid (And.intro (HB1.out.trans hb2) hown2)
  clear hown2 hb2
  go_wp2_with fail
  rw [rounds_succ]
  go_wp2_with fail
  rw [HR.out]
  exact ⟨HO2.out.1, _, rfl, HO2.out.2⟩
/-- a frame's sections -/
def mkL (S : Fr) (mac : Int) : List ByteArray := gL S.L mac (decide (64 - S.K = 0)) ++ cL (padN S : Nat) (parL S (64 - S.K))
/-- what Make answers, of a frame that has datagrams -/
structure MkOk (w : World) (B gf gr : Nat) (v : Value) (S : Fr) (mac : Int) (e : Ending) (w' : World) : Prop where
  fr : FrIn w' B gf gr v (parS S (64 - S.K))
  kept : Kept (footF gf gr v) w w'
  ok : 0 ≤ mac ∧ mac ≤ 65535 → ∃ v', e = .returned (.tuple #[v', .int .i64 0]) ∧ w'.ownsRow w.heap.size 9 1 v' (mkL S mac).length (flat enS (mkL S mac))
  bad : ¬ (0 ≤ mac ∧ mac ≤ 65535) → e = .returned (.tuple #[.slice none 0 0, .int .i64 15])
theorem parS_same (S : Fr) (k : Nat) : (parS S k).L = S.L ∧ (parS S k).used = S.used ∧ (parS S k).R = S.R ∧ (parS S k).C = S.C ∧ (parS S k).K = S.K := by
  unfold parS
  split
  · exact ⟨rfl, rfl, rfl, rfl, rfl⟩
  · unfold freshS
    split <;> exact ⟨rfl, rfl, rfl, rfl, rfl⟩
theorem parL_len (S : Fr) (k : Nat) : (parL S k).length = k := by simp [parL]
theorem mkL_len (S : Fr) (mac : Int) : (mkL S mac).length = S.L.length + (64 - S.K) := by
  unfold mkL
  rw [List.length_append, gL_len, cL_len, parL_len]
set_option maxHeartbeats 3200000 in
theorem make_any (w : World) (B gf gr : Nat) (v : Value) (S : Fr) (mac : Int) (hT : Tab 2 w) (hG : 2 < B) (h : FrIn w B gf gr v S) (hok : OkF S) (hK : S.K ≤ 64) (hg : GoodL S.L) (h0 : S.L.length ≠ 0) (hu : S.used ≠ 0) (hc : ColOk (padN S : Nat) (parL S (64 - S.K))) :
    Calls Tryz.prog 10 #[.pointer (some ⟨gf, 0, none⟩), .int .i64 mac] w (MkOk w B gf gr v S mac) := by
  have ku := used_any w B gf gr v S h
  have kp := parity_any w B gf gr v S h hok hK
  have hBw : B ≤ w.heap.size := by have := h.ge gf (Or.inl rfl); omega
  have hge := fun i hi => (h.ge i hi).1
  obtain ⟨R, hR⟩ : ∃ R : Ending → World → Prop, R = MkOk w B gf gr v S mac := ⟨_, rfl⟩
  rw [← hR]
  have HR := Lib.hid hR
  have tu : ((S.used : Int) == 0) = false := beq_eq_false_iff_ne.2 (by omega)
  have tu' : (S.used == 0) = false := beq_eq_false_iff_ne.2 hu
  have hu9 : S.used ≤ 191 * S.R := by have h1 := hok.u; have h2 := hok.C; have := Nat.mul_le_mul_left S.R h2; rw [Nat.mul_comm 191]; omega
  have HPS := Lib.hid (parS_same S (64 - S.K))
  have HOK2 := Lib.hid (par_ok hok (64 - S.K))
  have hpl0 := parL_len S (64 - S.K)
  have hmk : mkL S mac = gL S.L mac (decide (64 - S.K = 0)) ++ cL (padN S : Nat) (parL S (64 - S.K)) := rfl
  have hn9 : S.L.length ≤ 200000 := by have h1 := hok.n; have h2 := hok.u; have h3 := hok.C; have h4 := hok.R; have : S.R * S.C ≤ 1024 * 191 := Nat.mul_le_mul h4 h3; omega
  have HU := Lib.hid (show (parS S (64 - S.K)).R ≤ 1024 ∧ (parS S (64 - S.K)).used ≤ 191 * (parS S (64 - S.K)).R ∧ padN (parS S (64 - S.K)) = padN S from by
    obtain ⟨e1, e2, e3, e4, e5⟩ := parS_same S (64 - S.K)
    refine ⟨by rw [e3]; exact hok.R, by rw [e2, e3]; exact hu9, ?_⟩
    unfold padN
    rw [e2, e3])
  have HGL := Lib.hid (show GoodL (parS S (64 - S.K)).L ∧ (parS S (64 - S.K)).L.length ≠ 0 from by rw [(parS_same S (64 - S.K)).1]; exact ⟨hg, h0⟩)
  have HL0 := Lib.hid (show (parS S (64 - S.K)).L = S.L from (parS_same S (64 - S.K)).1)
  obtain ⟨KK, hKK⟩ : ∃ k, 64 - S.K = k := ⟨_, rfl⟩
  have hKK9 : KK ≤ 64 := by omega
  rw [hKK] at kp HPS HOK2 hpl0 hmk HU HGL HL0 hc
  obtain ⟨PL, hPL⟩ : ∃ l, parL S KK = l := ⟨_, rfl⟩
  rw [hPL] at kp hpl0 hmk hc
  obtain ⟨S2, hS2⟩ : ∃ s, parS S KK = s := ⟨_, rfl⟩
  rw [hS2] at kp HPS HOK2 HU HGL HL0
  obtain ⟨LA, hLA⟩ : ∃ b, decide (KK = 0) = b := ⟨_, rfl⟩
  rw [hLA] at hmk
  have tk : ((KK : Int) == 0) = LA := by
    rw [← hLA]
    by_cases h : KK = 0
    · rw [decide_eq_true h]; exact beq_iff_eq.2 (by omega)
    · rw [decide_eq_false h]; exact beq_eq_false_iff_ne.2 (by omega)
  obtain ⟨U, hU⟩ : ∃ u, S.used = u := ⟨_, rfl⟩
  rw [hU] at ku tu tu'
  have HT := Lib.hid (And.intro hT hG)
  have HC := Lib.hid hc
  have HMK := Lib.hid hmk
  have HML := Lib.hid (show (mkL S mac).length = S.L.length + KK from by rw [mkL_len, hKK])
  have HFR := Lib.hid (show parS S (64 - S.K) = S2 from by rw [hKK]; exact hS2)
  have HPL := Lib.hid hpl0
  have HKP := Lib.hid kp
  have HGE := Lib.hid hge
  clear hU hu hT hok hg h0 hR h kp hc hu9 hmk hpl0 hge hPL hS2 hLA hKK HPS
  go_enter Tryz.func10, Tryz.ntmps10
  go_wp2_with fail
  (with_reducible refine (ku).mono ?_); rintro e1 W0 ⟨rfl, rfl⟩
  go_wp2_with fail
  (with_reducible refine (HKP.out).mono ?_); rintro e1 W1 ⟨hf1, hk1, vp, rfl, hpl⟩
  obtain ⟨pa, pc, rfl, hsl⟩ := own_slc hpl HPL.out
  have hbB := Lib.hid (hk1.be hBw HGE.out)
  have HK1 := Lib.hid hk1
  have HF1 := Lib.hid hf1
  have HSL := Lib.hid hsl
  have kg := grams_any W1 B gf gr v S2 mac LA hf1 HOK2.out HGL.out.1 HGL.out.2
  rw [HL0.out] at kg
  have hz1 := hk1.size
  clear ku HKP hpl hk1 hf1 hsl
  by_cases hm : 0 ≤ mac ∧ mac ≤ 65535
  · have kg2 : Calls Tryz.prog 27 #[.pointer (some ⟨gf, 0, none⟩), .int .i64 mac, .bool LA] W1 fun e w' => Below W1.heap.size W1 w' ∧ ∃ v', e = .returned (.tuple #[v', .int .i64 0]) ∧ w'.ownsRow W1.heap.size 9 1 v' S.L.length (flat enS (gL S.L mac LA)) :=
      kg.mono (fun e w' ⟨h1, v', h2, h3, _⟩ => ⟨h1, v', by rw [h2, if_pos hm], h3 hm⟩)
    have HM := Lib.hid hm
    clear kg hm
    go_wp2_with fail
    (with_reducible refine (kg2).mono ?_); rintro e1 W2 ⟨hb2, v1, rfl, ho1⟩
    obtain ⟨ga, gc, rfl, hsg⟩ := own_slc ho1 (gL_len _ _ _)
    have HF2 := Lib.hid (HF1.out.below hb2)
    have kpd := padding_any W2 B gf gr v S2 HF2.out HU.out.1 HU.out.2.1
    rw [HU.out.2.2] at kpd
    have HS2 := Lib.hid (And.intro hsg (HSL.out.below hb2))
    have HB2 := Lib.hid hb2
    have hz2 := hb2.size
    clear kg2 ho1 hsg hb2
    go_wp2_with fail
    (with_reducible refine (kpd).mono ?_); rintro e1 W3 ⟨rfl, hb3⟩
    have HS3 := Lib.hid (And.intro (HS2.out.1.below hb3) (HS2.out.2.below hb3))
    have HF3 := Lib.hid (HF2.out.below hb3)
    have hz3 := hb3.size
    have hb23 := Lib.hid (HB2.out.trans (hb3.mono hz2))
    have HT3 := Lib.hid (((HT.out.1.below hbB.out HT.out.2).below hb23.out (Nat.lt_of_lt_of_le HT.out.2 (Nat.le_trans hBw hz1))))
    have kcl := columns_any (padN S : Nat) pa KK pc PL W3 HT3.out HPL.out HS3.out.2.s HC.out
    clear kpd hb3
    go_wp2_with fail
    (with_reducible refine (kcl).mono ?_); rintro e1 W4 ⟨hb4, v2, rfl, ho2⟩
    obtain ⟨ca, cc, rfl, hsc⟩ := own_slc ho2 (by rw [cL_len, HPL.out])
    have hz4 := hb4.size
    have HS4 := Lib.hid (show Slc (W4.alloc (.cells #[.slice ga S.L.length gc, .slice ca KK cc] 33)) ga S.L.length gc (gL S.L mac LA) ∧ Slc (W4.alloc (.cells #[.slice ga S.L.length gc, .slice ca KK cc] 33)) ca KK cc (cL (padN S : Nat) PL) from
      ⟨(HS3.out.1.below hb4).below ((Below.refl _ _).alloc (Nat.le_refl _) _), hsc.below ((Below.refl _ _).alloc (Nat.le_refl _) _)⟩)
    have kj := joined_any W4.heap.size ga ca S.L.length gc KK cc (gL S.L mac LA) (cL (padN S : Nat) PL) (W4.alloc (.cells #[.slice ga S.L.length gc, .slice ca KK cc] 33)) (Blk.new _ _ _) HS4.out.1 HS4.out.2 (by omega) (by omega)
    have HF5 := Lib.hid ((HF3.out.below hb4).below ((Below.refl _ _).alloc (Nat.le_refl _) (.cells #[.slice ga S.L.length gc, .slice ca KK cc] 33)))
    have hb25 := Lib.hid ((hb23.out.trans (hb4.mono (Nat.le_trans hz2 hz3))).alloc (Nat.le_trans (Nat.le_trans hz2 hz3) hz4) (.cells #[.slice ga S.L.length gc, .slice ca KK cc] 33))
    clear kcl ho2 hsc hb4
    go_wp2_with fail
    (with_reducible refine (kj).mono ?_); rintro e1 W5 ⟨hb5, v5, rfl, ho5⟩
    obtain ⟨ja, jc, rfl⟩ := own_form ho5
    have hzz : w.heap.size ≤ (W4.alloc (.cells #[.slice ga S.L.length gc, .slice ca KK cc] 33)).heap.size := by simp; omega
    have HFin := Lib.hid (show FrIn W5 B gf gr v S2 ∧ Kept (footF gf gr v) w W5 ∧ W5.ownsRow w.heap.size 9 1 (.slice ja (S.L.length + KK) jc) (S.L.length + KK) (flat enS (gL S.L mac LA ++ cL (padN S : Nat) PL)) from
      ⟨HF5.out.below hb5, HK1.out.then ((hb25.out.trans (hb5.mono (by simp; omega))).mono hz1), ApG.own_base ho5 hzz⟩)
    clear kj ho5 hb5 hzz
    go_wp2_with fail
    rw [HR.out]
    exact ⟨by rw [HFR.out]; exact HFin.out.1, HFin.out.2.1, fun _ => ⟨_, rfl, by rw [HML.out, HMK.out]; exact HFin.out.2.2⟩, fun h => absurd HM.out h⟩
  · have kg2 : Calls Tryz.prog 27 #[.pointer (some ⟨gf, 0, none⟩), .int .i64 mac, .bool LA] W1 fun e w' => e = .returned (.tuple #[.slice none 0 0, .int .i64 15]) ∧ Below W1.heap.size W1 w' :=
      kg.mono (fun e w' ⟨h1, v', h2, _, h4⟩ => ⟨by rw [h2, if_neg hm, h4 hm], h1⟩)
    have HM := Lib.hid hm
    clear kg hm
    go_wp2_with fail
    (with_reducible refine (kg2).mono ?_); rintro e1 W2 ⟨rfl, hb2⟩
    have HFin := Lib.hid (And.intro (HF1.out.below hb2) (HK1.out.then (hb2.mono hz1)))
    clear kg2 hb2
    go_wp2_with fail
    rw [HR.out]
    exact ⟨by rw [HFR.out]; exact HFin.out.1, HFin.out.2, fun h => absurd h HM.out, fun _ => rfl⟩
end Go.Proofs.YthgcmlhmhojjhaaGreatDoor.BuE
