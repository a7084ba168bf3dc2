/- BurstTakes: which sections a gatherer takes, walked. -/
import Derived.Test.YthgcmlhmhojjhaaGreatDoorBuS
import Derived.Test.YthgcmlhmhojjhaaGreatDoorBuL
namespace Go.Proofs.YthgcmlhmhojjhaaGreatDoor.TkA
open Go Go.RowKit Go.Proofs.YthgcmlhmhojjhaaGreatDoor.Q Go.Proofs.YthgcmlhmhojjhaaGreatDoor.Mem Go.Proofs.YthgcmlhmhojjhaaGreatDoor.Rg Go.Proofs.YthgcmlhmhojjhaaGreatDoor.Ap Go.Proofs.YthgcmlhmhojjhaaGreatDoor.St Go.Proofs.YthgcmlhmhojjhaaGreatDoor.CrB Go.Proofs.YthgcmlhmhojjhaaGreatDoor.Ints Go.Proofs.YthgcmlhmhojjhaaGreatDoor.Tab Go.Proofs.YthgcmlhmhojjhaaGreatDoor.TmA Go.Proofs.YthgcmlhmhojjhaaGreatDoor.TbM Go.Proofs.YthgcmlhmhojjhaaGreatDoor.TbO Go.Proofs.YthgcmlhmhojjhaaGreatDoor.TbP Go.Proofs.YthgcmlhmhojjhaaGreatDoor.FrA Go.Proofs.YthgcmlhmhojjhaaGreatDoor.FrB Go.Proofs.YthgcmlhmhojjhaaGreatDoor.FrC Go.Proofs.YthgcmlhmhojjhaaGreatDoor.LaA Go.Proofs.YthgcmlhmhojjhaaGreatDoor.LaH Go.Proofs.YthgcmlhmhojjhaaGreatDoor.BuA Go.Proofs.YthgcmlhmhojjhaaGreatDoor.BuB Go.Proofs.YthgcmlhmhojjhaaGreatDoor.BuC Go.Proofs.YthgcmlhmhojjhaaGreatDoor.BuD Go.Proofs.YthgcmlhmhojjhaaGreatDoor.BuE Go.Proofs.YthgcmlhmhojjhaaGreatDoor.BuF Go.Proofs.YthgcmlhmhojjhaaGreatDoor.BuG Go.Proofs.YthgcmlhmhojjhaaGreatDoor.BuI Go.Proofs.YthgcmlhmhojjhaaGreatDoor.BuJ Go.Proofs.YthgcmlhmhojjhaaGreatDoor.BuL Go.Proofs.YthgcmlhmhojjhaaGreatDoor.BuN Go.Proofs.YthgcmlhmhojjhaaGreatDoor.BuO Go.Proofs.YthgcmlhmhojjhaaGreatDoor.BuP Go.Proofs.YthgcmlhmhojjhaaGreatDoor.BuS

set_option maxRecDepth 100000
theorem tk_err {R : Nat} {mac : Int} {t : ByteArray} (h : tmE t ≠ 0) : tkE R mac t = tmE t := by
  unfold tmE at h ⊢
  unfold tkE
  cases hM : isM t with
  | true =>
    rw [hM, if_pos rfl] at h
    rw [if_pos rfl, if_pos rfl]
    unfold grmE
    rw [if_pos h]
  | false =>
    rw [hM, if_neg Bool.false_ne_true] at h
    rw [if_neg Bool.false_ne_true, if_neg Bool.false_ne_true]
    cases hF : isF t with
    | true =>
      rw [hF, if_pos rfl] at h
      rw [if_pos rfl, if_pos rfl]
      unfold colE
      rw [if_pos h]
    | false => rw [if_neg Bool.false_ne_true, if_neg Bool.false_ne_true]
theorem tk_in {R : Nat} {mac : Int} {t : ByteArray} (h : tmE t = 0) : tkE R mac t = 0 ∨ tkE R mac t = 18 ∨ tkE R mac t = 15 ∨ tkE R mac t = 12 := by
  unfold tmE at h
  unfold tkE
  cases hM : isM t with
  | true =>
    rw [hM, if_pos rfl] at h
    rw [if_pos rfl]
    unfold grmE putE
    rw [if_neg (by rw [h]; decide)]
    split
    · exact Or.inr (Or.inl rfl)
    · split
      · exact Or.inr (Or.inr (Or.inl rfl))
      · exact Or.inl rfl
  | false =>
    rw [hM, if_neg Bool.false_ne_true] at h
    rw [if_neg Bool.false_ne_true]
    cases hF : isF t with
    | true =>
      rw [hF, if_pos rfl] at h
      rw [if_pos rfl]
      unfold colE TbR.parE
      rw [if_neg (by rw [h]; decide)]
      split
      · exact Or.inr (Or.inr (Or.inl rfl))
      · split
        · exact Or.inr (Or.inr (Or.inr rfl))
        · exact Or.inl rfl
    | false =>
      rw [hF, if_neg (by decide)] at h
      cases h
/-- the frame -/
def F5 : Fr := frK 256 191 64 [50] [50].length
theorem f5_list : ∃ d, F5.L = [(0, d)] ∧ d.size ≤ 4080 ∧ F5.K = 64 := by
  have hd := made_ok 50 0
  have hz := dg_size hd.1
  refine ⟨madeD 50 0, ?_, hz.2, (frK_R 256 191 64 [50] _).2.2⟩
  have he : addE (emptyF 256 191 64) (madeD 50 0) = 0 := by
    unfold addE
    rw [if_neg (by rw [hd.1]; decide), if_neg (by show ¬ (256 * 191 < 0 + _); omega)]
  have h1 : F5 = addS (emptyF 256 191 64) (madeD 50 0) := frK_succ 256 191 64 [50] 0
  rw [h1]
  unfold addS
  rw [if_neg (by rw [he]; decide)]
  rfl
/-- its section -/
structure OneP (a : Int) (s : ByteArray) : Prop where
  mks : mkL F5 a = [s]
  sz : s.size ≤ 1099511627776
  e : ∀ b : Int, tkE 256 b s = if 0 ≤ b ∧ a ≠ b then 18 else 0
theorem f5_one (a : Int) (ha : 0 ≤ a ∧ a ≤ 65535) : ∃ s, OneP a s := by
  obtain ⟨d, hL, hd, hK⟩ := f5_list
  have hg : GoodL F5.L := (frK_mk (C := 191) (K := 64) (by decide) (by decide) [50] (by decide)).good
  have hx : F5.L[0]? = some (0, d) := by rw [hL]; rfl
  have hc : (gp F5.L a (decide (64 - F5.K = 0)) 0).chk = 0 := by rw [gp_chk hg hx, if_pos ha]
  obtain ⟨h1, h2⟩ := MpP.md_enc hc
  have hM := isM_enc hc
  refine ⟨(gp F5.L a (decide (64 - F5.K = 0)) 0).enc, ?_, ?_, fun b => ?_⟩
  · unfold mkL
    rw [hK]
    have hp : parL F5 (64 - 64) = [] := rfl
    rw [hp]
    show gL F5.L a _ ++ [] = _
    rw [List.append_nil]
    unfold gL
    rw [hL]
    rfl
  · rw [MpP.enc_size hc, gp_get hx]
    dsimp only
    omega
  · unfold tkE grmE
    rw [hM, if_pos rfl, if_neg (by rw [h1]; decide), h2, gp_get hx]
    dsimp only
    by_cases e : 0 ≤ b ∧ a ≠ b
    · rw [if_pos e, if_pos e]
    · rw [if_neg e, if_neg e]
      unfold putE
      rw [if_neg (by omega)]
theorem ga_new {w : World} {B g gt gr : Nat} {S : Tb} {mac : Int} {n : Nat} (h : GaIn w B g gt gr (.slice none 0 0) S mac n) : GaA w B g gt gr (.slice none 0 0) S mac n :=
  ⟨h, fun e => e.elim (fun e => Blk.ne_ h.box h.t.box (by decide) e) (fun e => e.elim (fun e => Blk.fm_ne h.box h.t.rows (by decide) e.symm) (fun e => by cases e))⟩
set_option maxHeartbeats 6400000 in
theorem takes_any (t : ByteArray) (a b : Int) (w : World) (hT : Tab 2 w) (hF : Tab 1 w) (hZ : Tab 0 w) : Calls Tryz.prog 3 #[.string t, .agg #[.int .i64 a, .int .i64 b]] w fun e w' => e = .returned (.bool true) ∧ Below w.heap.size w w' := by
  have HT := Lib.hid (And.intro hT (And.intro hF hZ))
  have hbk := Blk.new w 22 #[.int .i64 a, .int .i64 b]
  have HBE := Lib.hid ((Below.refl w.heap.size w).alloc (Nat.le_refl _) (.cells #[.int .i64 a, .int .i64 b] 22))
  have d0 := Blk.cell (hbk) 0 (v := .int .i64 a) rfl
  have d1 := Blk.cell (hbk) 1 (v := .int .i64 b) rfl
  have HBK := Lib.hid hbk
  clear hT hF hZ hbk
  by_cases hs : 5000 < t.size
  · have t1 : decide ((5000 : Int) < (t.size : Int)) = true := decide_eq_true (by omega)
    have t1' : decide (5000 < t.size) = true := decide_eq_true hs
    clear hs
    go_enter Tryz.func3, Tryz.ntmps3
    have HTA := Lib.hid (awake_any _ (HT.out.1.be HBE.out) (HT.out.2.1.be HBE.out))
    go_wp2_with fail
    (with_reducible refine (HTA.out).mono ?_); rintro e1 W9 ⟨rfl, hb9⟩
    have hE := HBE.out.trans (hb9.mono HBE.out.size)
    go_wp2_with fail
    go_ret
    exact ⟨rfl, hE⟩
  · have t1 : decide ((5000 : Int) < (t.size : Int)) = false := decide_eq_false (by omega)
    have t1' : decide (5000 < t.size) = false := decide_eq_false hs
    by_cases h1 : a < 0
    · have t2 : decide (a < 0) = true := decide_eq_true h1
      clear hs h1
      go_enter Tryz.func3, Tryz.ntmps3
      have HTA := Lib.hid (awake_any _ (HT.out.1.be HBE.out) (HT.out.2.1.be HBE.out))
      go_wp2_with fail
      (with_reducible refine (HTA.out).mono ?_); rintro e1 W9 ⟨rfl, hb9⟩
      have hE := HBE.out.trans (hb9.mono HBE.out.size)
      go_wp2_with fail
      go_ret
      exact ⟨rfl, hE⟩
    · have t2 : decide (a < 0) = false := decide_eq_false h1
      by_cases h2 : 65535 < a
      · have t3 : decide ((65535 : Int) < a) = true := decide_eq_true h2
        clear hs h1 h2
        go_enter Tryz.func3, Tryz.ntmps3
        have HTA := Lib.hid (awake_any _ (HT.out.1.be HBE.out) (HT.out.2.1.be HBE.out))
        go_wp2_with fail
        (with_reducible refine (HTA.out).mono ?_); rintro e1 W9 ⟨rfl, hb9⟩
        have hE := HBE.out.trans (hb9.mono HBE.out.size)
        go_wp2_with fail
        go_ret
        exact ⟨rfl, hE⟩
      · have t3 : decide ((65535 : Int) < a) = false := decide_eq_false h2
        by_cases h3 : 65535 < b
        · have t4 : decide ((65535 : Int) < b) = true := decide_eq_true h3
          clear hs h1 h2 h3
          go_enter Tryz.func3, Tryz.ntmps3
          have HTA := Lib.hid (awake_any _ (HT.out.1.be HBE.out) (HT.out.2.1.be HBE.out))
          go_wp2_with fail
          (with_reducible refine (HTA.out).mono ?_); rintro e1 W9 ⟨rfl, hb9⟩
          have hE := HBE.out.trans (hb9.mono HBE.out.size)
          go_wp2_with fail
          go_ret
          exact ⟨rfl, hE⟩
        · have t4 : decide ((65535 : Int) < b) = false := decide_eq_false h3
          have HA := Lib.hid (show 0 ≤ a ∧ a ≤ 65535 from ⟨by omega, by omega⟩)
          have HS := Lib.hid (show t.size ≤ 1099511627776 by omega)
          clear hs h1 h2 h3
          have kb := bnew_yes 256 b (w.alloc (.cells #[.int .i64 a, .int .i64 b] 22)) (HT.out.2.2.be HBE.out) (by decide)
          go_enter Tryz.func3, Tryz.ntmps3
          go_wp2_with fail
          (with_reducible refine (kb).mono ?_); rintro e1 W2 ⟨hb2, R, g, gt, gr, hR, _, _, rfl, hga⟩
          obtain rfl : R = 256 := by omega
          have HGA := Lib.hid (ga_new hga)
          have HB2 := Lib.hid (HBE.out.trans (hb2.mono HBE.out.size))
          have HX2 := Lib.hid (Blk.below HBK.out hb2 HBK.out.lt)
          have x0 := Blk.cell (HX2.out) 0 (v := .int .i64 a) rfl
          have x1 := Blk.cell (HX2.out) 1 (v := .int .i64 b) rfl
          clear kb hb2 hga d0 d1 hR
          go_wp2_with fail
          have HV := Lib.hid (HB2.out.alloc HB2.out.size (.cells #[.int .i64 50] 3))
          have HGV := Lib.hid (HGA.out.below ((Below.refl _ W2).alloc (Nat.le_refl _) (.cells #[.int .i64 50] 3)))
          have HXV := Lib.hid (HX2.out.alloc (.cells #[.int .i64 50] 3))
          have kf := filled_any 256 191 64 (some ⟨W2.heap.size, 0, none⟩) 1 1 [50] (W2.alloc (.cells #[.int .i64 50] 3)) (HT.out.2.1.be HV.out) rfl (by decide) (ints_blk (Blk.new _ _ _) rfl) (by decide) rfl
          have hBT := (HT.out.1.be HV.out).lt
          have hVW : (w.alloc (.cells #[.int .i64 a, .int .i64 b] 22)).heap.size ≤ (W2.alloc (.cells #[.int .i64 50] 3)).heap.size := by have := HGV.out.ge g (Or.inl rfl); omega
          obtain ⟨V, hV⟩ : ∃ V, W2.alloc (.cells #[.int .i64 50] 3) = V := ⟨_, rfl⟩
          rw [hV] at HV HGV HXV kf hBT hVW
          rw [hV]
          (with_reducible refine (kf).mono ?_); rintro e1 W3 ⟨⟨c, k, gf, gr2, v, ec, ek, _, _, rfl, hf3⟩, hb3⟩
          obtain rfl : c = 191 := by omega
          obtain rfl : k = 64 := by omega
          have hf3 : FrIn W3 V.heap.size gf gr2 v F5 := hf3
          have HMK := Lib.hid (show MkS F5 from frK_mk (C := 191) (K := 64) (by decide) (by decide) [50] (by decide))
          have HB3 := Lib.hid (HV.out.trans (hb3.mono HV.out.size))
          have HXB3 := Lib.hid (Blk.below HXV.out hb3 HXV.out.lt)
          have y0 := Blk.cell (HXB3.out) 0 (v := .int .i64 a) rfl
          have y1 := Blk.cell (HXB3.out) 1 (v := .int .i64 b) rfl
          obtain ⟨s, hs⟩ := f5_one a HA.out
          have h0 : F5.L.length ≠ 0 := by obtain ⟨d, h, _⟩ := f5_list; rw [h]; simp
          have km := make_any W3 V.heap.size gf gr2 v F5 a (HT.out.1.be HB3.out) hBT hf3 HMK.out.ok HMK.out.K HMK.out.good h0 (HMK.out.pos h0) HMK.out.col
          have HF3 := Lib.hid hf3
          have HSS := Lib.hid hs
          have hz3 := hb3.size
          have km2 : Calls Tryz.prog 10 #[.pointer (some ⟨gf, 0, none⟩), .int .i64 a] W3 fun e w' => (∃ a1 c1, e = .returned (.tuple #[.slice a1 1 c1, .int .i64 0]) ∧ Slc w' a1 1 c1 [s]) ∧ Below V.heap.size W3 w' := km.mono (fun e w' h => by
            obtain ⟨v', h1, h2⟩ := h.ok HA.out
            rw [HSS.out.mks] at h2
            obtain ⟨a1, c1, rfl, h3⟩ := own_slc h2 rfl
            exact ⟨⟨a1, c1, h1, h3⟩, h.kept.be hz3 (fun i hi => (HF3.out.ge i hi).1)⟩)
          have HB33 := Lib.hid hb3
          clear kf ec ek hf3 hs h0 km hb3 hV x0 x1
          go_wp2_with fail
          (with_reducible refine (km2).mono ?_); rintro e1 W4 ⟨⟨a1, c1, rfl, hs4⟩, hb4⟩
          have hb34 := HB33.out.trans hb4
          have HB4 := Lib.hid (HV.out.trans (hb34.mono HV.out.size))
          have HG4 := Lib.hid (HGV.out.below hb34)
          have HX4 := Lib.hid (Blk.below HXV.out hb34 HXV.out.lt)
          obtain ⟨b0, o0, rfl, hlt, hc⟩ := hs4.s 0 s rfl
          have c0 : W4.cell? ⟨b0, o0, none⟩ = some (.string s) := hc 0 _ rfl
          have kt := take_any W4 _ g gt gr (.slice none 0 0) (emptyT 256) b 0 s HG4.out (LaB.empty_ok (by decide) (by decide)) (by simp [emptyT]) rfl HSS.out.sz (by decide) (HT.out.1.be HB4.out)
          have HTK := Lib.hid (show tkE (emptyT 256).R b s = if 0 ≤ b ∧ a ≠ b then 18 else 0 from HSS.out.e b)
          obtain ⟨E, hE⟩ : ∃ E, tkE (emptyT 256).R b s = E := ⟨_, rfl⟩
          rw [hE] at HTK
          have kt2 : Calls Tryz.prog 11 #[.pointer (some ⟨g, 0, none⟩), .string s] W4 fun e w' => (∃ F v5 S5 n5, e = .returned (.tuple #[.bool F, .int .i64 E]) ∧ GaA w' (w.alloc (.cells #[.int .i64 a, .int .i64 b] 22)).heap.size g gt gr v5 S5 b n5 ∧ (Ok S5 ∧ S5.st.length ≤ 10 ∧ S5.R = 256) ∧ n5 ≤ 1) ∧ Below (w.alloc (.cells #[.int .i64 a, .int .i64 b] 22)).heap.size W4 w' := kt.mono (fun e w' h => by
            obtain ⟨v8, h8, _⟩ := h.ga
            have hok := tk_ok (S := emptyT 256) (LaB.empty_ok (by decide) (by decide)) (by simp [emptyT]) b s
            refine ⟨⟨_, v8, _, _, by rw [h.e, hE], h8, ⟨hok.1, ?_, hok.2.2⟩, ?_⟩, h.k.be (by have := (HG4.out.ge g (Or.inl rfl)); omega) (fun i hi => (HG4.out.ge i hi).1)⟩
            · have := hok.2.1
              simp [emptyT] at this ⊢
              omega
            · unfold tkN; split <;> omega)
          clear km2 hb4 hb34 hs4 hc hlt kt hE y0 y1
          go_wp2_with fail
          (with_reducible refine (kt2).mono ?_); rintro e1 W5 ⟨⟨F, v5, S5, n5, rfl, hg5, hs5, hn5⟩, hb5⟩
          have HB5 := Lib.hid (HB4.out.trans (hb5.mono (by simp)))
          have HG5 := Lib.hid hg5
          have HS5 := Lib.hid hs5
          have hbx := Blk.below HX4.out hb5 (by simp)
          have z0 := Blk.cell (hbx) 0 (v := .int .i64 a) rfl
          have z1 := Blk.cell (hbx) 1 (v := .int .i64 b) rfl
          have kr := rtimes_any t W5 HS.out
          obtain ⟨Q, hQ⟩ : ∃ Q, tmT t = Q := ⟨_, rfl⟩
          rw [hQ] at kr
          obtain ⟨W, hW⟩ : ∃ W, tmE t = W := ⟨_, rfl⟩
          rw [hW] at kr
          have HW := Lib.hid hW
          obtain ⟨q1, q2, q3, q4⟩ := Q
          unfold Ti.vals at kr
          dsimp only at kr
          clear kt2 hb5 hg5 hs5 c0 hQ hbx hW
          by_cases e1 : b < 0
          · have t5 : decide (b < 0) = true := decide_eq_true e1
            obtain rfl : E = 0 := by rw [HTK.out, if_neg (fun h => by omega)]
            clear e1
            have ktk := fun V S n v (h : GaA V (w.alloc (.cells #[.int .i64 a, .int .i64 b] 22)).heap.size g gt gr v S b n) => taken_any h
            go_wp2_with fail
            (with_reducible refine (kr).mono ?_); rintro e6 W6 ⟨rfl, hb6⟩
            have HB6 := Lib.hid ((HB5.out.trans (hb6.mono HB5.out.size)).alloc (Nat.le_trans HB5.out.size hb6.size) (.cells #[.int .i64 q1, .bool q2, .bool q3, .int .i64 q4] 39))
            have HG6 := Lib.hid ((HG5.out.below hb6).below ((Below.refl W6.heap.size W6).alloc (Nat.le_refl _) (.cells #[.int .i64 q1, .bool q2, .bool q3, .int .i64 q4] 39)))
            have kt1 := ktk _ _ _ _ HG6.out
            clear kr hb6
            go_wp2_with fail
            (with_reducible refine (kt1).mono ?_); rintro e7 W7 ⟨rfl, rfl⟩
            have kt2 := take_any (W6.alloc (.cells #[.int .i64 q1, .bool q2, .bool q3, .int .i64 q4] 39)) _ g gt gr v5 S5 b n5 t HG6.out HS5.out.1 (by have := HS5.out.2.1; omega) HS5.out.2.2 HS.out (by omega) (HT.out.1.be HB6.out)
            have kt3 := kt2.mono (fun e w' h => (show (∃ v8 S8, e = .returned (.tuple #[.bool (tkF S5.R b t), .int .i64 (tkE 256 b t)]) ∧ GaA w' (w.alloc (.cells #[.int .i64 a, .int .i64 b] 22)).heap.size g gt gr v8 S8 b (tkN 256 b t n5)) ∧ Below w.heap.size (W6.alloc (.cells #[.int .i64 q1, .bool q2, .bool q3, .int .i64 q4] 39)) w' from by
              obtain ⟨v8, h8, _⟩ := h.ga
              rw [HS5.out.2.2] at h8
              have he := h.e
              rw [HS5.out.2.2] at he
              exact ⟨⟨v8, _, by rw [HS5.out.2.2]; exact he, h8⟩, (h.k.be (B := (w.alloc (.cells #[.int .i64 a, .int .i64 b] 22)).heap.size) (by have := (HG6.out.ge g (Or.inl rfl)); omega) (fun i hi => (HG6.out.ge i hi).1)).mono (by simp)⟩))
            have HTN := Lib.hid (show tkN 256 b t n5 = if tkE 256 b t = 0 then n5 + 1 else n5 from rfl)
            have HE1 := Lib.hid (fun h : tmE t ≠ 0 => tk_err (R := 256) (mac := b) h)
            have HE2 := Lib.hid (fun h : tmE t = 0 => tk_in (R := 256) (mac := b) h)
            rw [HW.out] at HE1 HE2
            obtain ⟨E2, hE2⟩ : ∃ E, tkE 256 b t = E := ⟨_, rfl⟩
            obtain ⟨n8, hn8⟩ : ∃ n, tkN 256 b t n5 = n := ⟨_, rfl⟩
            rw [hE2] at HTN HE1 HE2 kt3
            rw [hn8] at HTN kt3
            clear kt1 kt2 hE2 hn8
            have n50 : (0 : Int) ≤ (n5 : Int) := Int.natCast_nonneg _
            have n51 : (n5 : Int) ≤ 1 := by omega
            by_cases hw : W = 0
            · subst hw
              rcases HE2.out rfl with h | h | h | h
              · subst h
                obtain rfl : n8 = n5 + 1 := HTN.out.trans (if_pos rfl)
                have t7 : (((n5 + 1 : Nat) : Int) == (n5 : Int) + 1) = true := beq_iff_eq.2 (by omega)
                go_wp2_with fail
                (with_reducible refine (kt3).mono ?_); rintro e8 W8 ⟨⟨v8, S8, rfl, hg8⟩, hb8⟩
                have HB8 := Lib.hid (HB6.out.trans hb8)
                have kt4 := ktk _ _ _ _ hg8
                clear kt3 hg8 hb8
                go_wp2_with fail
                (with_reducible refine (kt4).mono ?_); rintro e9 W9 ⟨rfl, rfl⟩
                clear kt4
                have HTA := Lib.hid (awake_any W8 (HT.out.1.be HB8.out) (HT.out.2.1.be HB8.out))
                go_wp2_with fail
                (with_reducible refine (HTA.out).mono ?_); rintro e9 W9 ⟨rfl, hb9⟩
                have hE := HB8.out.trans (hb9.mono HB8.out.size)
                go_wp2_with fail
                go_ret
                exact ⟨rfl, hE⟩
              · subst h
                obtain rfl : n8 = n5 := HTN.out.trans (if_neg (by decide))
                have t7 : ((n8 : Int) == (n8 : Int) + 1) = false := beq_eq_false_iff_ne.2 (by omega)
                go_wp2_with fail
                (with_reducible refine (kt3).mono ?_); rintro e8 W8 ⟨⟨v8, S8, rfl, hg8⟩, hb8⟩
                have HB8 := Lib.hid (HB6.out.trans hb8)
                have kt4 := ktk _ _ _ _ hg8
                clear kt3 hg8 hb8
                go_wp2_with fail
                (with_reducible refine (kt4).mono ?_); rintro e9 W9 ⟨rfl, rfl⟩
                clear kt4
                have HTA := Lib.hid (awake_any W8 (HT.out.1.be HB8.out) (HT.out.2.1.be HB8.out))
                go_wp2_with fail
                (with_reducible refine (HTA.out).mono ?_); rintro e9 W9 ⟨rfl, hb9⟩
                have hE := HB8.out.trans (hb9.mono HB8.out.size)
                go_wp2_with fail
                go_ret
                exact ⟨rfl, hE⟩
              · subst h
                obtain rfl : n8 = n5 := HTN.out.trans (if_neg (by decide))
                have t7 : ((n8 : Int) == (n8 : Int) + 1) = false := beq_eq_false_iff_ne.2 (by omega)
                go_wp2_with fail
                (with_reducible refine (kt3).mono ?_); rintro e8 W8 ⟨⟨v8, S8, rfl, hg8⟩, hb8⟩
                have HB8 := Lib.hid (HB6.out.trans hb8)
                have kt4 := ktk _ _ _ _ hg8
                clear kt3 hg8 hb8
                go_wp2_with fail
                (with_reducible refine (kt4).mono ?_); rintro e9 W9 ⟨rfl, rfl⟩
                clear kt4
                have HTA := Lib.hid (awake_any W8 (HT.out.1.be HB8.out) (HT.out.2.1.be HB8.out))
                go_wp2_with fail
                (with_reducible refine (HTA.out).mono ?_); rintro e9 W9 ⟨rfl, hb9⟩
                have hE := HB8.out.trans (hb9.mono HB8.out.size)
                go_wp2_with fail
                go_ret
                exact ⟨rfl, hE⟩
              · subst h
                obtain rfl : n8 = n5 := HTN.out.trans (if_neg (by decide))
                have t7 : ((n8 : Int) == (n8 : Int) + 1) = false := beq_eq_false_iff_ne.2 (by omega)
                go_wp2_with fail
                (with_reducible refine (kt3).mono ?_); rintro e8 W8 ⟨⟨v8, S8, rfl, hg8⟩, hb8⟩
                have HB8 := Lib.hid (HB6.out.trans hb8)
                have kt4 := ktk _ _ _ _ hg8
                clear kt3 hg8 hb8
                go_wp2_with fail
                (with_reducible refine (kt4).mono ?_); rintro e9 W9 ⟨rfl, rfl⟩
                clear kt4
                have HTA := Lib.hid (awake_any W8 (HT.out.1.be HB8.out) (HT.out.2.1.be HB8.out))
                go_wp2_with fail
                (with_reducible refine (HTA.out).mono ?_); rintro e9 W9 ⟨rfl, hb9⟩
                have hE := HB8.out.trans (hb9.mono HB8.out.size)
                go_wp2_with fail
                go_ret
                exact ⟨rfl, hE⟩
            · have t8 : (W != 0) = true := by simpa using hw
              obtain rfl : E2 = W := HE1.out hw
              obtain rfl : n8 = n5 := HTN.out.trans (if_neg hw)
              clear hw
              go_wp2_with fail
              (with_reducible refine (kt3).mono ?_); rintro e8 W8 ⟨⟨v8, S8, rfl, hg8⟩, hb8⟩
              have HB8 := Lib.hid (HB6.out.trans hb8)
              have kt4 := ktk _ _ _ _ hg8
              clear kt3 hg8 hb8
              go_wp2_with fail
              (with_reducible refine (kt4).mono ?_); rintro e9 W9 ⟨rfl, rfl⟩
              clear kt4
              have HTA := Lib.hid (awake_any W8 (HT.out.1.be HB8.out) (HT.out.2.1.be HB8.out))
              go_wp2_with fail
              (with_reducible refine (HTA.out).mono ?_); rintro e9 W9 ⟨rfl, hb9⟩
              have hE := HB8.out.trans (hb9.mono HB8.out.size)
              go_wp2_with fail
              go_ret
              exact ⟨rfl, hE⟩
          · have t5 : decide (b < 0) = false := decide_eq_false e1
            by_cases e2 : a = b
            · have t6 : (a == b) = true := beq_iff_eq.2 e2
              obtain rfl : E = 0 := by rw [HTK.out, if_neg (fun h => h.2 e2)]
              clear e1 e2
              have ktk := fun V S n v (h : GaA V (w.alloc (.cells #[.int .i64 a, .int .i64 b] 22)).heap.size g gt gr v S b n) => taken_any h
              go_wp2_with fail
              (with_reducible refine (kr).mono ?_); rintro e6 W6 ⟨rfl, hb6⟩
              have HB6 := Lib.hid ((HB5.out.trans (hb6.mono HB5.out.size)).alloc (Nat.le_trans HB5.out.size hb6.size) (.cells #[.int .i64 q1, .bool q2, .bool q3, .int .i64 q4] 39))
              have HG6 := Lib.hid ((HG5.out.below hb6).below ((Below.refl W6.heap.size W6).alloc (Nat.le_refl _) (.cells #[.int .i64 q1, .bool q2, .bool q3, .int .i64 q4] 39)))
              have kt1 := ktk _ _ _ _ HG6.out
              clear kr hb6
              go_wp2_with fail
              (with_reducible refine (kt1).mono ?_); rintro e7 W7 ⟨rfl, rfl⟩
              have kt2 := take_any (W6.alloc (.cells #[.int .i64 q1, .bool q2, .bool q3, .int .i64 q4] 39)) _ g gt gr v5 S5 b n5 t HG6.out HS5.out.1 (by have := HS5.out.2.1; omega) HS5.out.2.2 HS.out (by omega) (HT.out.1.be HB6.out)
              have kt3 := kt2.mono (fun e w' h => (show (∃ v8 S8, e = .returned (.tuple #[.bool (tkF S5.R b t), .int .i64 (tkE 256 b t)]) ∧ GaA w' (w.alloc (.cells #[.int .i64 a, .int .i64 b] 22)).heap.size g gt gr v8 S8 b (tkN 256 b t n5)) ∧ Below w.heap.size (W6.alloc (.cells #[.int .i64 q1, .bool q2, .bool q3, .int .i64 q4] 39)) w' from by
                obtain ⟨v8, h8, _⟩ := h.ga
                rw [HS5.out.2.2] at h8
                have he := h.e
                rw [HS5.out.2.2] at he
                exact ⟨⟨v8, _, by rw [HS5.out.2.2]; exact he, h8⟩, (h.k.be (B := (w.alloc (.cells #[.int .i64 a, .int .i64 b] 22)).heap.size) (by have := (HG6.out.ge g (Or.inl rfl)); omega) (fun i hi => (HG6.out.ge i hi).1)).mono (by simp)⟩))
              have HTN := Lib.hid (show tkN 256 b t n5 = if tkE 256 b t = 0 then n5 + 1 else n5 from rfl)
              have HE1 := Lib.hid (fun h : tmE t ≠ 0 => tk_err (R := 256) (mac := b) h)
              have HE2 := Lib.hid (fun h : tmE t = 0 => tk_in (R := 256) (mac := b) h)
              rw [HW.out] at HE1 HE2
              obtain ⟨E2, hE2⟩ : ∃ E, tkE 256 b t = E := ⟨_, rfl⟩
              obtain ⟨n8, hn8⟩ : ∃ n, tkN 256 b t n5 = n := ⟨_, rfl⟩
              rw [hE2] at HTN HE1 HE2 kt3
              rw [hn8] at HTN kt3
              clear kt1 kt2 hE2 hn8
              have n50 : (0 : Int) ≤ (n5 : Int) := Int.natCast_nonneg _
              have n51 : (n5 : Int) ≤ 1 := by omega
              by_cases hw : W = 0
              · subst hw
                rcases HE2.out rfl with h | h | h | h
                · subst h
                  obtain rfl : n8 = n5 + 1 := HTN.out.trans (if_pos rfl)
                  have t7 : (((n5 + 1 : Nat) : Int) == (n5 : Int) + 1) = true := beq_iff_eq.2 (by omega)
                  go_wp2_with fail
                  (with_reducible refine (kt3).mono ?_); rintro e8 W8 ⟨⟨v8, S8, rfl, hg8⟩, hb8⟩
                  have HB8 := Lib.hid (HB6.out.trans hb8)
                  have kt4 := ktk _ _ _ _ hg8
                  clear kt3 hg8 hb8
                  go_wp2_with fail
                  (with_reducible refine (kt4).mono ?_); rintro e9 W9 ⟨rfl, rfl⟩
                  clear kt4
                  have HTA := Lib.hid (awake_any W8 (HT.out.1.be HB8.out) (HT.out.2.1.be HB8.out))
                  go_wp2_with fail
                  (with_reducible refine (HTA.out).mono ?_); rintro e9 W9 ⟨rfl, hb9⟩
                  have hE := HB8.out.trans (hb9.mono HB8.out.size)
                  go_wp2_with fail
                  go_ret
                  exact ⟨rfl, hE⟩
                · subst h
                  obtain rfl : n8 = n5 := HTN.out.trans (if_neg (by decide))
                  have t7 : ((n8 : Int) == (n8 : Int) + 1) = false := beq_eq_false_iff_ne.2 (by omega)
                  go_wp2_with fail
                  (with_reducible refine (kt3).mono ?_); rintro e8 W8 ⟨⟨v8, S8, rfl, hg8⟩, hb8⟩
                  have HB8 := Lib.hid (HB6.out.trans hb8)
                  have kt4 := ktk _ _ _ _ hg8
                  clear kt3 hg8 hb8
                  go_wp2_with fail
                  (with_reducible refine (kt4).mono ?_); rintro e9 W9 ⟨rfl, rfl⟩
                  clear kt4
                  have HTA := Lib.hid (awake_any W8 (HT.out.1.be HB8.out) (HT.out.2.1.be HB8.out))
                  go_wp2_with fail
                  (with_reducible refine (HTA.out).mono ?_); rintro e9 W9 ⟨rfl, hb9⟩
                  have hE := HB8.out.trans (hb9.mono HB8.out.size)
                  go_wp2_with fail
                  go_ret
                  exact ⟨rfl, hE⟩
                · subst h
                  obtain rfl : n8 = n5 := HTN.out.trans (if_neg (by decide))
                  have t7 : ((n8 : Int) == (n8 : Int) + 1) = false := beq_eq_false_iff_ne.2 (by omega)
                  go_wp2_with fail
                  (with_reducible refine (kt3).mono ?_); rintro e8 W8 ⟨⟨v8, S8, rfl, hg8⟩, hb8⟩
                  have HB8 := Lib.hid (HB6.out.trans hb8)
                  have kt4 := ktk _ _ _ _ hg8
                  clear kt3 hg8 hb8
                  go_wp2_with fail
                  (with_reducible refine (kt4).mono ?_); rintro e9 W9 ⟨rfl, rfl⟩
                  clear kt4
                  have HTA := Lib.hid (awake_any W8 (HT.out.1.be HB8.out) (HT.out.2.1.be HB8.out))
                  go_wp2_with fail
                  (with_reducible refine (HTA.out).mono ?_); rintro e9 W9 ⟨rfl, hb9⟩
                  have hE := HB8.out.trans (hb9.mono HB8.out.size)
                  go_wp2_with fail
                  go_ret
                  exact ⟨rfl, hE⟩
                · subst h
                  obtain rfl : n8 = n5 := HTN.out.trans (if_neg (by decide))
                  have t7 : ((n8 : Int) == (n8 : Int) + 1) = false := beq_eq_false_iff_ne.2 (by omega)
                  go_wp2_with fail
                  (with_reducible refine (kt3).mono ?_); rintro e8 W8 ⟨⟨v8, S8, rfl, hg8⟩, hb8⟩
                  have HB8 := Lib.hid (HB6.out.trans hb8)
                  have kt4 := ktk _ _ _ _ hg8
                  clear kt3 hg8 hb8
                  go_wp2_with fail
                  (with_reducible refine (kt4).mono ?_); rintro e9 W9 ⟨rfl, rfl⟩
                  clear kt4
                  have HTA := Lib.hid (awake_any W8 (HT.out.1.be HB8.out) (HT.out.2.1.be HB8.out))
                  go_wp2_with fail
                  (with_reducible refine (HTA.out).mono ?_); rintro e9 W9 ⟨rfl, hb9⟩
                  have hE := HB8.out.trans (hb9.mono HB8.out.size)
                  go_wp2_with fail
                  go_ret
                  exact ⟨rfl, hE⟩
              · have t8 : (W != 0) = true := by simpa using hw
                obtain rfl : E2 = W := HE1.out hw
                obtain rfl : n8 = n5 := HTN.out.trans (if_neg hw)
                clear hw
                go_wp2_with fail
                (with_reducible refine (kt3).mono ?_); rintro e8 W8 ⟨⟨v8, S8, rfl, hg8⟩, hb8⟩
                have HB8 := Lib.hid (HB6.out.trans hb8)
                have kt4 := ktk _ _ _ _ hg8
                clear kt3 hg8 hb8
                go_wp2_with fail
                (with_reducible refine (kt4).mono ?_); rintro e9 W9 ⟨rfl, rfl⟩
                clear kt4
                have HTA := Lib.hid (awake_any W8 (HT.out.1.be HB8.out) (HT.out.2.1.be HB8.out))
                go_wp2_with fail
                (with_reducible refine (HTA.out).mono ?_); rintro e9 W9 ⟨rfl, hb9⟩
                have hE := HB8.out.trans (hb9.mono HB8.out.size)
                go_wp2_with fail
                go_ret
                exact ⟨rfl, hE⟩
            · have t6 : (a == b) = false := beq_eq_false_iff_ne.2 e2
              obtain rfl : E = 18 := by rw [HTK.out, if_pos ⟨by omega, e2⟩]
              clear e1 e2
              have ktk := fun V S n v (h : GaA V (w.alloc (.cells #[.int .i64 a, .int .i64 b] 22)).heap.size g gt gr v S b n) => taken_any h
              go_wp2_with fail
              (with_reducible refine (kr).mono ?_); rintro e6 W6 ⟨rfl, hb6⟩
              have HB6 := Lib.hid ((HB5.out.trans (hb6.mono HB5.out.size)).alloc (Nat.le_trans HB5.out.size hb6.size) (.cells #[.int .i64 q1, .bool q2, .bool q3, .int .i64 q4] 39))
              have HG6 := Lib.hid ((HG5.out.below hb6).below ((Below.refl W6.heap.size W6).alloc (Nat.le_refl _) (.cells #[.int .i64 q1, .bool q2, .bool q3, .int .i64 q4] 39)))
              have kt1 := ktk _ _ _ _ HG6.out
              clear kr hb6
              go_wp2_with fail
              (with_reducible refine (kt1).mono ?_); rintro e7 W7 ⟨rfl, rfl⟩
              have kt2 := take_any (W6.alloc (.cells #[.int .i64 q1, .bool q2, .bool q3, .int .i64 q4] 39)) _ g gt gr v5 S5 b n5 t HG6.out HS5.out.1 (by have := HS5.out.2.1; omega) HS5.out.2.2 HS.out (by omega) (HT.out.1.be HB6.out)
              have kt3 := kt2.mono (fun e w' h => (show (∃ v8 S8, e = .returned (.tuple #[.bool (tkF S5.R b t), .int .i64 (tkE 256 b t)]) ∧ GaA w' (w.alloc (.cells #[.int .i64 a, .int .i64 b] 22)).heap.size g gt gr v8 S8 b (tkN 256 b t n5)) ∧ Below w.heap.size (W6.alloc (.cells #[.int .i64 q1, .bool q2, .bool q3, .int .i64 q4] 39)) w' from by
                obtain ⟨v8, h8, _⟩ := h.ga
                rw [HS5.out.2.2] at h8
                have he := h.e
                rw [HS5.out.2.2] at he
                exact ⟨⟨v8, _, by rw [HS5.out.2.2]; exact he, h8⟩, (h.k.be (B := (w.alloc (.cells #[.int .i64 a, .int .i64 b] 22)).heap.size) (by have := (HG6.out.ge g (Or.inl rfl)); omega) (fun i hi => (HG6.out.ge i hi).1)).mono (by simp)⟩))
              have HTN := Lib.hid (show tkN 256 b t n5 = if tkE 256 b t = 0 then n5 + 1 else n5 from rfl)
              have HE1 := Lib.hid (fun h : tmE t ≠ 0 => tk_err (R := 256) (mac := b) h)
              have HE2 := Lib.hid (fun h : tmE t = 0 => tk_in (R := 256) (mac := b) h)
              rw [HW.out] at HE1 HE2
              obtain ⟨E2, hE2⟩ : ∃ E, tkE 256 b t = E := ⟨_, rfl⟩
              obtain ⟨n8, hn8⟩ : ∃ n, tkN 256 b t n5 = n := ⟨_, rfl⟩
              rw [hE2] at HTN HE1 HE2 kt3
              rw [hn8] at HTN kt3
              clear kt1 kt2 hE2 hn8
              have n50 : (0 : Int) ≤ (n5 : Int) := Int.natCast_nonneg _
              have n51 : (n5 : Int) ≤ 1 := by omega
              by_cases hw : W = 0
              · subst hw
                rcases HE2.out rfl with h | h | h | h
                · subst h
                  obtain rfl : n8 = n5 + 1 := HTN.out.trans (if_pos rfl)
                  have t7 : (((n5 + 1 : Nat) : Int) == (n5 : Int) + 1) = true := beq_iff_eq.2 (by omega)
                  go_wp2_with fail
                  (with_reducible refine (kt3).mono ?_); rintro e8 W8 ⟨⟨v8, S8, rfl, hg8⟩, hb8⟩
                  have HB8 := Lib.hid (HB6.out.trans hb8)
                  have kt4 := ktk _ _ _ _ hg8
                  clear kt3 hg8 hb8
                  go_wp2_with fail
                  (with_reducible refine (kt4).mono ?_); rintro e9 W9 ⟨rfl, rfl⟩
                  clear kt4
                  have HTA := Lib.hid (awake_any W8 (HT.out.1.be HB8.out) (HT.out.2.1.be HB8.out))
                  go_wp2_with fail
                  (with_reducible refine (HTA.out).mono ?_); rintro e9 W9 ⟨rfl, hb9⟩
                  have hE := HB8.out.trans (hb9.mono HB8.out.size)
                  go_wp2_with fail
                  go_ret
                  exact ⟨rfl, hE⟩
                · subst h
                  obtain rfl : n8 = n5 := HTN.out.trans (if_neg (by decide))
                  have t7 : ((n8 : Int) == (n8 : Int) + 1) = false := beq_eq_false_iff_ne.2 (by omega)
                  go_wp2_with fail
                  (with_reducible refine (kt3).mono ?_); rintro e8 W8 ⟨⟨v8, S8, rfl, hg8⟩, hb8⟩
                  have HB8 := Lib.hid (HB6.out.trans hb8)
                  have kt4 := ktk _ _ _ _ hg8
                  clear kt3 hg8 hb8
                  go_wp2_with fail
                  (with_reducible refine (kt4).mono ?_); rintro e9 W9 ⟨rfl, rfl⟩
                  clear kt4
                  have HTA := Lib.hid (awake_any W8 (HT.out.1.be HB8.out) (HT.out.2.1.be HB8.out))
                  go_wp2_with fail
                  (with_reducible refine (HTA.out).mono ?_); rintro e9 W9 ⟨rfl, hb9⟩
                  have hE := HB8.out.trans (hb9.mono HB8.out.size)
                  go_wp2_with fail
                  go_ret
                  exact ⟨rfl, hE⟩
                · subst h
                  obtain rfl : n8 = n5 := HTN.out.trans (if_neg (by decide))
                  have t7 : ((n8 : Int) == (n8 : Int) + 1) = false := beq_eq_false_iff_ne.2 (by omega)
                  go_wp2_with fail
                  (with_reducible refine (kt3).mono ?_); rintro e8 W8 ⟨⟨v8, S8, rfl, hg8⟩, hb8⟩
                  have HB8 := Lib.hid (HB6.out.trans hb8)
                  have kt4 := ktk _ _ _ _ hg8
                  clear kt3 hg8 hb8
                  go_wp2_with fail
                  (with_reducible refine (kt4).mono ?_); rintro e9 W9 ⟨rfl, rfl⟩
                  clear kt4
                  have HTA := Lib.hid (awake_any W8 (HT.out.1.be HB8.out) (HT.out.2.1.be HB8.out))
                  go_wp2_with fail
                  (with_reducible refine (HTA.out).mono ?_); rintro e9 W9 ⟨rfl, hb9⟩
                  have hE := HB8.out.trans (hb9.mono HB8.out.size)
                  go_wp2_with fail
                  go_ret
                  exact ⟨rfl, hE⟩
                · subst h
                  obtain rfl : n8 = n5 := HTN.out.trans (if_neg (by decide))
                  have t7 : ((n8 : Int) == (n8 : Int) + 1) = false := beq_eq_false_iff_ne.2 (by omega)
                  go_wp2_with fail
                  (with_reducible refine (kt3).mono ?_); rintro e8 W8 ⟨⟨v8, S8, rfl, hg8⟩, hb8⟩
                  have HB8 := Lib.hid (HB6.out.trans hb8)
                  have kt4 := ktk _ _ _ _ hg8
                  clear kt3 hg8 hb8
                  go_wp2_with fail
                  (with_reducible refine (kt4).mono ?_); rintro e9 W9 ⟨rfl, rfl⟩
                  clear kt4
                  have HTA := Lib.hid (awake_any W8 (HT.out.1.be HB8.out) (HT.out.2.1.be HB8.out))
                  go_wp2_with fail
                  (with_reducible refine (HTA.out).mono ?_); rintro e9 W9 ⟨rfl, hb9⟩
                  have hE := HB8.out.trans (hb9.mono HB8.out.size)
                  go_wp2_with fail
                  go_ret
                  exact ⟨rfl, hE⟩
              · have t8 : (W != 0) = true := by simpa using hw
                obtain rfl : E2 = W := HE1.out hw
                obtain rfl : n8 = n5 := HTN.out.trans (if_neg hw)
                clear hw
                go_wp2_with fail
                (with_reducible refine (kt3).mono ?_); rintro e8 W8 ⟨⟨v8, S8, rfl, hg8⟩, hb8⟩
                have HB8 := Lib.hid (HB6.out.trans hb8)
                have kt4 := ktk _ _ _ _ hg8
                clear kt3 hg8 hb8
                go_wp2_with fail
                (with_reducible refine (kt4).mono ?_); rintro e9 W9 ⟨rfl, rfl⟩
                clear kt4
                have HTA := Lib.hid (awake_any W8 (HT.out.1.be HB8.out) (HT.out.2.1.be HB8.out))
                go_wp2_with fail
                (with_reducible refine (HTA.out).mono ?_); rintro e9 W9 ⟨rfl, hb9⟩
                have hE := HB8.out.trans (hb9.mono HB8.out.size)
                go_wp2_with fail
                go_ret
                exact ⟨rfl, hE⟩
end Go.Proofs.YthgcmlhmhojjhaaGreatDoor.TkA
