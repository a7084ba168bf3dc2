/- The gatherer: gram. -/
import Derived.Test.YthgcmlhmhojjhaaGreatDoorBuN
import Derived.Test.YthgcmlhmhojjhaaGreatDoorPaR
import Derived.Test.YthgcmlhmhojjhaaGreatDoorPkN
namespace Go.Proofs.YthgcmlhmhojjhaaGreatDoor.BuO
open Go Go.Shelf Go.RowKit Go.Proofs.YthgcmlhmhojjhaaGreatDoor.Q Go.Proofs.YthgcmlhmhojjhaaGreatDoor.Mem Go.Proofs.YthgcmlhmhojjhaaGreatDoor.Rg Go.Proofs.YthgcmlhmhojjhaaGreatDoor.Ap Go.Proofs.YthgcmlhmhojjhaaGreatDoor.St Go.Proofs.YthgcmlhmhojjhaaGreatDoor.Tab Go.Proofs.YthgcmlhmhojjhaaGreatDoor.TmA Go.Proofs.YthgcmlhmhojjhaaGreatDoor.TbM Go.Proofs.YthgcmlhmhojjhaaGreatDoor.TbO Go.Proofs.YthgcmlhmhojjhaaGreatDoor.TbP Go.Proofs.YthgcmlhmhojjhaaGreatDoor.TbR Go.Proofs.YthgcmlhmhojjhaaGreatDoor.MpA Go.Proofs.YthgcmlhmhojjhaaGreatDoor.MpC Go.Proofs.YthgcmlhmhojjhaaGreatDoor.MpP Go.Proofs.YthgcmlhmhojjhaaGreatDoor.BuI Go.Proofs.YthgcmlhmhojjhaaGreatDoor.BuN

set_option maxRecDepth 100000
/-- bytes 0 -/
def zz (k : Nat) : ByteArray := str (List.replicate k 0)
theorem zz_size (k : Nat) : (zz k).size = k := by
  have : (bl (zz k)).length = k := by unfold zz; rw [bl_str, List.length_replicate]
  rw [← bl_len]; exact this
theorem zz_any (k : Nat) (w : World) (hk : k ≤ 140737488355328) :
    Calls Tryz.prog 99 #[.string ⟨#[0]⟩, .int .i64 k] w fun e w' => e = .returned (.string (zz k)) ∧ Below w.heap.size w w' := by
  refine (Any.strings_Repeat PaR.lays105 PaR.extra ⟨#[0]⟩ k w (by omega) (by show 1 * k ≤ _; omega)).mono fun e w' ⟨h1, h2⟩ => ⟨?_, h2⟩
  rw [h1]
  have : Lib.repeatL (ByteArray.mk #[0]).data.toList k = List.replicate k 0 := by simpa using Lib.repeatL_replicate 0 1 k
  rw [this]
  rfl
/-- a datagram is taken -/
def grmE (R : Nat) (mac : Int) (t : ByteArray) : Int := if mdE t ≠ 0 then mdE t else if 0 ≤ mac ∧ (mdP t).mac ≠ mac then 18 else putE R (mdP t).times.at_ (mdP t).text
def endN (t : ByteArray) : Nat := (mdP t).times.at_.toNat + (mdP t).text.size
def usedN (R : Nat) (t : ByteArray) : Nat := (endN t + R - 1) / R
def grmT (S : Tb) (mac : Int) (t : ByteArray) : Tb := if grmE S.R mac t ≠ 0 then S else
  if (mdP t).times.table then padS (putS (putS S (mdP t).times.at_ (mdP t).text) (endN t : Int) (zz (usedN S.R t * S.R - endN t))) (191 - (usedN S.R t : Int)) else putS S (mdP t).times.at_ (mdP t).text
def grmF (R : Nat) (mac : Int) (t : ByteArray) : Bool := if grmE R mac t ≠ 0 then false else (mdP t).times.frame
structure GrmIn (w : World) (B g gt gr : Nat) (v : Value) (S : Tb) (mac : Int) (n : Nat) (t : ByteArray) (e : Ending) (w' : World) : Prop where
  e : e = .returned (.tuple #[.bool (grmF S.R mac t), .int .i64 (grmE S.R mac t)])
  ga : ∃ v', GaA w' B g gt gr v' (grmT S mac t) mac n ∧ far w v v'
  k : Kept (foot gt gr v) w w'
theorem GrmIn.same {w : World} {B g gt gr : Nat} {v : Value} {S : Tb} {mac : Int} {n : Nat} {t : ByteArray} {w' : World} {E : Int} (h : GaA w B g gt gr v S mac n) (hb : Below w.heap.size w w') (hE : grmE S.R mac t = E) (h0 : E ≠ 0) : GrmIn w B g gt gr v S mac n t (.returned (.tuple #[.bool false, .int .i64 E])) w' := by
  subst hE
  refine ⟨by unfold grmF; rw [if_pos h0], ⟨v, ?_, Or.inl rfl⟩, kept_below _ hb⟩
  unfold grmT
  rw [if_pos h0]
  exact h.below hb
set_option maxHeartbeats 3200000 in
theorem gram_none (w : World) (B g gt gr : Nat) (v : Value) (S : Tb) (mac : Int) (n : Nat) (t : ByteArray) (h : GaA w B g gt gr v S mac n) (hs : t.size ≤ 1099511627776) (h0 : mdE t = 0) (hm : 0 ≤ mac ∧ (mdP t).mac ≠ mac) :
    Calls Tryz.prog 72 #[.pointer (some ⟨g, 0, none⟩), .string t] w fun e w' => GrmIn w B g gt gr v S mac n t e w' := by
  obtain ⟨Q, hQ⟩ : ∃ Q : Ending → World → Prop, Q = (fun e w' => GrmIn w B g gt gr v S mac n t e w') := ⟨_, rfl⟩
  rw [← hQ]
  have HQ := Lib.hid hQ
  have HH := Lib.hid h
  have hE : grmE S.R mac t = 18 := by unfold grmE; rw [if_neg (by rw [h0]; simp), if_pos hm]
  have HE := Lib.hid (fun w' (hb : Below w.heap.size w w') => GrmIn.same h hb hE (by decide))
  have kd := mdec_any t w hs
  rw [h0] at kd
  have t1 : decide (0 ≤ mac) = true := decide_eq_true hm.1
  have t2 : ((mdP t).mac == mac) = false := beq_eq_false_iff_ne.2 hm.2
  clear hQ h hE h0 hm
  obtain ⟨p, hp⟩ : ∃ p, mdP t = p := ⟨_, rfl⟩
  rw [hp] at kd
  obtain ⟨mc, ⟨de, ta, fr, at_⟩, tx⟩ := p
  unfold Mp.vals at kd
  dsimp only at kd
  go_enter Tryz.func72, Tryz.ntmps72
  go_wp2_with fail
  (with_reducible refine (kd).mono ?_); rintro e1 W1 ⟨rfl, hb1⟩
  have hV := HH.out.below hb1
  have hge := GaA.ge hV
  have HK0 := Lib.hid hb1
  have hn := Blk.new W1 119 #[.int .i64 mc, .int .i64 de, .bool ta, .bool fr, .int .i64 at_, .string tx]
  have hbe := (Below.refl W1.heap.size W1).alloc (Nat.le_refl _) (.cells #[.int .i64 mc, .int .i64 de, .bool ta, .bool fr, .int .i64 at_, .string tx] 119)
  have hV2 := hV.below hbe
  clear kd hb1
  go_wp2_with fail
  refine wp_gen (fun W => Blk W W1.heap.size 119 #[.int .i64 mc, .int .i64 de, .bool ta, .bool fr, .int .i64 at_, .string tx] ∧ GaA W B g gt gr v S mac n ∧ Below W1.heap.size W1 W) ⟨hn, hV2, hbe⟩ ?_
  rintro V ⟨hP, hG, hBV⟩
  clear hn hV2 hbe hV
  obtain ⟨b, hb⟩ : ∃ b, W1.heap.size = b := ⟨_, rfl⟩
  rw [hb] at hP hge
  rw [hb]
  rw [hb] at hBV
  have HBV := Lib.hid (HK0.out.trans (hBV.mono (by have := HK0.out.size; omega)))
  have x0 := fun pX => Blk.cell (blk_ext (hP) pX) 0 (v := .int .i64 mc) rfl
  have x1 := fun pX => Blk.cell (blk_ext (hP) pX) 1 (v := .int .i64 de) rfl
  have x2 := fun pX => Blk.cell (blk_ext (hP) pX) 2 (v := .bool ta) rfl
  have x3 := fun pX => Blk.cell (blk_ext (hP) pX) 3 (v := .bool fr) rfl
  have x4 := fun pX => Blk.cell (blk_ext (hP) pX) 4 (v := .int .i64 at_) rfl
  have x5 := fun pX => Blk.cell (blk_ext (hP) pX) 5 (v := .string tx) rfl
  have g2 := fun p => Blk.cell (blk_ext hG.box p) 2 (v := .int .i64 mac) rfl
  rw [hp] at t2
  dsimp only at t2
  refine Go.Proofs.YthgcmlhmhojjhaaGreatDoor.Q.region_ext (by kernel_rfl) (by kernel_rfl) ?_
  repeat (go_big_quiet_step (fail))
  refine wpQuiet_nil ?_
  rintro w9 ⟨pq, rfl⟩
  have HF := Lib.hid (HE.out _ (HBV.out.trans ((below_ext V pq).mono HBV.out.size)))
  clear hG hP x0 x1 x2 x3 x4 x5 g2 hge
  go_wp2_with fail
  rw [HQ.out]
  exact HF.out
set_option maxHeartbeats 3200000 in
theorem gram_bad (w : World) (B g gt gr : Nat) (v : Value) (S : Tb) (mac : Int) (n : Nat) (t : ByteArray) (h : GaA w B g gt gr v S mac n) (hs : t.size ≤ 1099511627776) (h0 : mdE t ≠ 0) :
    Calls Tryz.prog 72 #[.pointer (some ⟨g, 0, none⟩), .string t] w fun e w' => GrmIn w B g gt gr v S mac n t e w' := by
  obtain ⟨Q, hQ⟩ : ∃ Q : Ending → World → Prop, Q = (fun e w' => GrmIn w B g gt gr v S mac n t e w') := ⟨_, rfl⟩
  rw [← hQ]
  have HQ := Lib.hid hQ
  have hE : grmE S.R mac t = mdE t := by unfold grmE; rw [if_pos h0]
  have HE := Lib.hid (fun w' (hb : Below w.heap.size w w') => GrmIn.same h hb hE h0)
  have kd := mdec_any t w hs
  have t1 : (mdE t == 0) = false := beq_eq_false_iff_ne.2 h0
  clear hQ h hE h0
  obtain ⟨E, hE⟩ : ∃ E, mdE t = E := ⟨_, rfl⟩
  rw [hE] at t1 kd HE
  obtain ⟨p, hp⟩ : ∃ p, mdP t = p := ⟨_, rfl⟩
  rw [hp] at kd
  obtain ⟨mc, ⟨de, ta, fr, at_⟩, tx⟩ := p
  unfold Mp.vals at kd
  dsimp only at kd
  go_enter Tryz.func72, Tryz.ntmps72
  go_wp2_with fail
  (with_reducible refine (kd).mono ?_); rintro e1 W1 ⟨rfl, hb1⟩
  have HF := Lib.hid (HE.out _ (hb1.alloc hb1.size (.cells #[.int .i64 mc, .int .i64 de, .bool ta, .bool fr, .int .i64 at_, .string tx] 119)))
  clear kd hb1
  go_wp2_with fail
  rw [HQ.out]
  exact HF.out
theorem far_trans {w w1 : World} {a b c : Value} (h : far w a b) (k : far w1 b c) (hw : w.heap.size ≤ w1.heap.size) : far w a c := by
  rcases k with e | ⟨j, e, hj⟩
  · rcases h with e2 | ⟨i, e2, hi⟩
    · exact Or.inl (e.trans e2)
    · exact Or.inr ⟨i, e.trans e2, hi⟩
  · exact Or.inr ⟨j, e, Nat.le_trans hw hj⟩
theorem foot_back {w : World} {gt gr : Nat} {a b : Value} (h : far w a b) : ∀ i, i < w.heap.size → foot gt gr b i → foot gt gr a i := by
  rintro i hi (e | e | e)
  · exact Or.inl e
  · exact Or.inr (Or.inl e)
  · rcases h with e2 | ⟨j, e2, hj⟩
    · exact Or.inr (Or.inr (e2 ▸ e))
    · rw [e2] at e; injection e with e; omega
set_option maxHeartbeats 6400000 in
theorem gram_put (w : World) (B g gt gr : Nat) (v : Value) (S : Tb) (mac : Int) (n : Nat) (t : ByteArray) (h : GaA w B g gt gr v S mac n) (hok : Ok S) (hst : S.st.length ≤ 90000) (hR : S.R = 256) (hs : t.size ≤ 1099511627776) (h0 : mdE t = 0) (hm : ¬ (0 ≤ mac ∧ (mdP t).mac ≠ mac)) :
    Calls Tryz.prog 72 #[.pointer (some ⟨g, 0, none⟩), .string t] w fun e w' => GrmIn w B g gt gr v S mac n t e w' := by
  obtain ⟨Q, hQ⟩ : ∃ Q : Ending → World → Prop, Q = (fun e w' => GrmIn w B g gt gr v S mac n t e w') := ⟨_, rfl⟩
  rw [← hQ]
  have HQ := Lib.hid hQ
  have HH := Lib.hid h
  have HO := Lib.hid hok
  have HRR := Lib.hid hR
  have HST := Lib.hid hst
  have hE : grmE S.R mac t = putE S.R (mdP t).times.at_ (mdP t).text := by unfold grmE; rw [if_neg (by rw [h0]; simp), if_neg hm]
  have HGE := Lib.hid hE
  have kd := mdec_any t w hs
  rw [h0] at kd
  have hck := (enc_md h0).1
  have HCK := Lib.hid (mchk_zero hck)
  have HTX := Lib.hid (show (mdP t).text.size ≤ 1099511627776 by have := MpA.dg_size (mchk_zero hck).2.2; omega)
  clear hQ h hE h0 hck hok hR hst
  by_cases h1 : 0 ≤ mac
  · have t1 : decide (0 ≤ mac) = true := decide_eq_true h1
    have t2 : ((mdP t).mac == mac) = true := beq_iff_eq.2 (Decidable.byContradiction fun h => hm ⟨h1, h⟩)
    clear h1 hm
    obtain ⟨p, hp⟩ : ∃ p, mdP t = p := ⟨_, rfl⟩
    rw [hp] at kd
    obtain ⟨mc, ⟨de, ta, fr, at_⟩, tx⟩ := p
    unfold Mp.vals at kd
    dsimp only at kd
    go_enter Tryz.func72, Tryz.ntmps72
    go_wp2_with fail
    (with_reducible refine (kd).mono ?_); rintro e1 W1 ⟨rfl, hb1⟩
    have hV := HH.out.below hb1
    have hge := GaA.ge hV
    have HK0 := Lib.hid hb1
    have hn := Blk.new W1 119 #[.int .i64 mc, .int .i64 de, .bool ta, .bool fr, .int .i64 at_, .string tx]
    have hbe := (Below.refl W1.heap.size W1).alloc (Nat.le_refl _) (.cells #[.int .i64 mc, .int .i64 de, .bool ta, .bool fr, .int .i64 at_, .string tx] 119)
    have hV2 := hV.below hbe
    clear kd hb1
    go_wp2_with fail
    refine wp_gen (fun W => Blk W W1.heap.size 119 #[.int .i64 mc, .int .i64 de, .bool ta, .bool fr, .int .i64 at_, .string tx] ∧ GaA W B g gt gr v S mac n ∧ Below W1.heap.size W1 W) ⟨hn, hV2, hbe⟩ ?_
    rintro V ⟨hP, hG, hBV⟩
    clear hn hV2 hbe hV
    obtain ⟨b, hb⟩ : ∃ b, W1.heap.size = b := ⟨_, rfl⟩
    rw [hb] at hP hge
    rw [hb]
    rw [hb] at hBV
    have HBV := Lib.hid (HK0.out.trans (hBV.mono (by have := HK0.out.size; omega)))
    have x0 := fun pX => Blk.cell (blk_ext (hP) pX) 0 (v := .int .i64 mc) rfl
    have x1 := fun pX => Blk.cell (blk_ext (hP) pX) 1 (v := .int .i64 de) rfl
    have x2 := fun pX => Blk.cell (blk_ext (hP) pX) 2 (v := .bool ta) rfl
    have x3 := fun pX => Blk.cell (blk_ext (hP) pX) 3 (v := .bool fr) rfl
    have x4 := fun pX => Blk.cell (blk_ext (hP) pX) 4 (v := .int .i64 at_) rfl
    have x5 := fun pX => Blk.cell (blk_ext (hP) pX) 5 (v := .string tx) rfl
    have g2 := fun p => Blk.cell (blk_ext hG.box p) 2 (v := .int .i64 mac) rfl
    rw [hp] at t2 HCK HTX HGE
    dsimp only at t2 HCK HTX HGE
    refine Go.Proofs.YthgcmlhmhojjhaaGreatDoor.Q.region_ext (by kernel_rfl) (by kernel_rfl) ?_
    repeat (go_big_quiet_step (fail))
    refine wpQuiet_nil ?_
    rintro w9 ⟨pq, rfl⟩
    have hbx := below_ext V pq
    have hGx := hG.below hbx
    have hPx := Blk.below hP hbx (Blk.lt hP)
    have HBU := Lib.hid (HBV.out.trans (hbx.mono HBV.out.size))
    obtain ⟨U, hU⟩ : ∃ U, ext V pq = U := ⟨_, rfl⟩
    rw [hU] at hGx hPx HBU ⊢
    clear hU hbx hG hP x0 x1 x2 x3 x4 x5 g2 HBV hBV
    go_wp2_with fail
    have x0 := Blk.cell (hPx) 0 (v := .int .i64 mc) rfl
    have x1 := Blk.cell (hPx) 1 (v := .int .i64 de) rfl
    have x2 := Blk.cell (hPx) 2 (v := .bool ta) rfl
    have x3 := Blk.cell (hPx) 3 (v := .bool fr) rfl
    have x4 := Blk.cell (hPx) 4 (v := .int .i64 at_) rfl
    have x5 := Blk.cell (hPx) 5 (v := .string tx) rfl
    have g0 := Blk.cell hGx.box 0 (v := .pointer (some ⟨gt, 0, none⟩)) rfl
    have hGd := hGx.below (below_drewN (Below.refl U.heap.size U) 1)
    have kp := TbP.put_any U.drew B gt gr v S at_ tx hGd.t HO.out HTX.out
    have hgv := Blk.lt hGx.box
    have hbv := Blk.lt hPx
    have hfb : ¬ foot gt gr v b := fun h => by have := (hge b (Or.inr h)).2; omega
    have hap := hGx.ap
    go_region_held3 (fun w' => w'.cell? ⟨g, 0, none⟩ = some (.pointer (some ⟨gt, 0, none⟩)) ∧ w'.cell? ⟨b, 4, none⟩ = some (.int .i64 at_) ∧ w'.cell? ⟨b, 5, none⟩ = some (.string tx))
      (first
        | exact ⟨g0, x4, x5⟩
        | exact ⟨(hk9.cell (p := ⟨g, 0, none⟩) hgv hap).trans g0, (hk9.cell (p := ⟨b, 4, none⟩) hbv hfb).trans x4, (hk9.cell (p := ⟨b, 5, none⟩) hbv hfb).trans x5⟩)
      ((go_at_call 98; refine kp.mono ?_; rintro e w9 ⟨v9, rfl, ht9, hf9, hk9⟩))
    have hG9 := hGd.table ht9 (put_R S at_ tx) hf9 hk9
    have hK9 : Kept (foot gt gr v) w w9 := Kept.pre (below_drewN HBU.out 1) hk9
    have hP9 : Blk w9 b 119 #[.int .i64 mc, .int .i64 de, .bool ta, .bool fr, .int .i64 at_, .string tx] := (hk9.block b hbv hfb).trans hPx
    have hfb9 : ¬ foot gt gr v9 b := fun h => hfb (foot_back hf9 b hbv h)
    have hF9 : far w v v9 := hf9.imp id (fun ⟨j, h1, h2⟩ => ⟨j, h1, Nat.le_trans HBU.out.size h2⟩)
    have HBU9 := Lib.hid HBU.out.size
    clear hk9 ht9 hGd hGx hPx kp g0 x0 x1 x2 x3 x4 x5 hf9 hgv hbv hge
    have hz : putE S.R at_ tx = 0 ∨ ((putE S.R at_ tx == 0) = false ∧ putE S.R at_ tx ≠ 0) := by
      by_cases h : putE S.R at_ tx = 0
      · exact Or.inl h
      · exact Or.inr ⟨beq_eq_false_iff_ne.2 h, h⟩
    rcases hz with h0 | ⟨h1, h2⟩
    · rw [h0]
      have HG0 := Lib.hid (HGE.out.trans h0)
      have HPE := Lib.hid h0
      clear h0 HGE
      cases ta with
      | false =>
        have x0 := Blk.cell (hP9) 0 (v := .int .i64 mc) rfl
        have x1 := Blk.cell (hP9) 1 (v := .int .i64 de) rfl
        have x2 := Blk.cell (hP9) 2 (v := .bool false) rfl
        have x3 := Blk.cell (hP9) 3 (v := .bool fr) rfl
        have x4 := Blk.cell (hP9) 4 (v := .int .i64 at_) rfl
        have x5 := Blk.cell (hP9) 5 (v := .string tx) rfl
        have HF := Lib.hid (show GrmIn w B g gt gr v S mac n t (.returned (.tuple #[.bool fr, .int .i64 0])) w9 from ⟨by rw [HG0.out]; unfold grmF; rw [if_neg (by rw [HG0.out]; simp), hp], ⟨v9, by unfold grmT; rw [if_neg (by rw [HG0.out]; simp), hp]; exact hG9, hF9⟩, hK9⟩)
        clear hG9 hK9 hF9 hP9 hp
        go_wp2_with fail
        rw [HQ.out]
        exact HF.out
      | true =>
        have x0 := Blk.cell (hP9) 0 (v := .int .i64 mc) rfl
        have x1 := Blk.cell (hP9) 1 (v := .int .i64 de) rfl
        have x2 := Blk.cell (hP9) 2 (v := .bool true) rfl
        have x3 := Blk.cell (hP9) 3 (v := .bool fr) rfl
        have x4 := Blk.cell (hP9) 4 (v := .int .i64 at_) rfl
        have x5 := Blk.cell (hP9) 5 (v := .string tx) rfl
        have g1 := fun p => Blk.cell (blk_ext hG9.box p) 1 (v := .int .i64 256) (by rw [put_R, HRR.out]; rfl)
        have hb9 : 0 ≤ at_ ∧ at_ + (tx.size : Int) ≤ 48896 := by
          have h1 := HPE.out
          rw [HRR.out] at h1
          unfold putE at h1
          by_cases h2 : at_ < 0 ∨ ((191 * 256 : Nat) : Int) < at_ ∨ ((191 * 256 : Nat) : Int) - at_ < tx.size
          · rw [if_pos h2] at h1; exact absurd h1 (by decide)
          · omega
        obtain ⟨A, rfl⟩ : ∃ A : Nat, at_ = (A : Int) := ⟨at_.toNat, by omega⟩
        have A0 : (0 : Int) ≤ (A : Int) := Int.natCast_nonneg _
        have A1 : (A : Int) + (tx.size : Int) ≤ 48896 := hb9.2
        clear hb9
        go_wp2_with fail
        refine Go.Proofs.YthgcmlhmhojjhaaGreatDoor.Q.region_ext (by kernel_rfl) (by kernel_rfl) ?_
        repeat (go_big_quiet_step (fail))
        refine wpQuiet_nil ?_
        rintro w7 ⟨pq, rfl⟩
        have hbx := below_ext w9 pq
        have hG7 := hG9.below hbx
        have hP7 := Blk.below hP9 hbx (Blk.lt hP9)
        have hK7 := hK9.then (hbx.mono hK9.size)
        have hS7 : w.heap.size ≤ (ext w9 pq).heap.size := hK7.size
        obtain ⟨U, hU⟩ : ∃ U, ext w9 pq = U := ⟨_, rfl⟩
        rw [hU] at hG7 hP7 hK7 hS7 ⊢
        clear hU hbx hG9 hP9 hK9 x0 x1 x2 x3 x4 x5 g1
        obtain ⟨D, hD⟩ : ∃ D, (A + tx.size + 255) / 256 = D := ⟨_, rfl⟩
        obtain ⟨M, hM⟩ : ∃ M, A + tx.size = M := ⟨_, rfl⟩
        rw [show ((A : Int) + (tx.size : Int) + 256 - 1) / 256 = (D : Int) by omega, show (A : Int) + (tx.size : Int) = (M : Int) by omega]
        have HDM := Lib.hid (And.intro hD hM)
        have D1 : (D : Int) ≤ 191 := by omega
        have D2 : M ≤ D * 256 := by omega
        have M0 : (M : Int) ≤ 48896 := by omega
        clear hD hM A0 A1
        have D0 : (0 : Int) ≤ (D : Int) := Int.natCast_nonneg _
        have g0 := Blk.cell hG7.box 0 (v := .pointer (some ⟨gt, 0, none⟩)) rfl
        have g1 := Blk.cell hG7.box 1 (v := .int .i64 256) (by rw [put_R, HRR.out]; rfl)
        have hgv := Blk.lt hG7.box
        have hap7 := hG7.ap
        obtain ⟨k, hk⟩ : ∃ k, D * 256 - M = k := ⟨_, rfl⟩
        have HK := Lib.hid hk
        have kz : ∀ V, Calls Tryz.prog 99 #[.string ⟨#[0]⟩, .int .i64 (IntKind.i64.wrap (IntKind.i64.wrap ((D : Int) * 256) - (M : Int)))] V fun e w' => e = .returned (.string (zz k)) ∧ Below V.heap.size V w' := fun V => by
          have := zz_any k V (by omega)
          rw [show IntKind.i64.wrap (IntKind.i64.wrap ((D : Int) * 256) - (M : Int)) = (k : Int) by
            have e1 : IntKind.i64.wrap ((D : Int) * 256) = (D : Int) * 256 := by rw [IntKind.wrap_i64]; omega
            have e2 : IntKind.i64.wrap ((D : Int) * 256 - (M : Int)) = (D : Int) * 256 - (M : Int) := by rw [IntKind.wrap_i64]; omega
            rw [e1, e2]; omega]
          exact this
        have hk9 : k ≤ 48896 := by omega
        have ho1 := LaB.put_ok HO.out (by have := HST.out; omega) (A : Int) tx
        have kp2 := fun W (h : TbIn W B gt gr v9 (putS S (A : Int) tx)) => TbP.put_any W B gt gr v9 (putS S (A : Int) tx) (M : Int) (zz k) h ho1.1 (by rw [zz_size]; omega)
        have HO2 := Lib.hid (LaB.put_ok ho1.1 (by have := HST.out; have := ho1.2; omega) (M : Int) (zz k))
        have hb7 : b < U.heap.size := Blk.lt hP7
        clear hk ho1
        go_wp2_with fail
        go_region_held3 (fun w' => w'.cell? ⟨g, 0, none⟩ = some (.pointer (some ⟨gt, 0, none⟩)) ∧ w'.cell? ⟨g, 1, none⟩ = some (.int .i64 256))
          (first
            | exact ⟨g0, g1⟩
            | exact ⟨(hb8.cell (p := ⟨g, 0, none⟩) hgv).trans g0, (hb8.cell (p := ⟨g, 1, none⟩) hgv).trans g1⟩
            | exact ⟨(hk6.cell (p := ⟨g, 0, none⟩) hgv8 hap7).trans ((hb8.cell (p := ⟨g, 0, none⟩) hgv).trans g0), (hk6.cell (p := ⟨g, 1, none⟩) hgv8 hap7).trans ((hb8.cell (p := ⟨g, 1, none⟩) hgv).trans g1)⟩)
          (first
            | (go_at_call 99; refine (kz U.drew).mono ?_; rintro e w8 ⟨rfl, hb8⟩; have hG8 := (hG7.below (below_drewN (Below.refl U.heap.size U) 1)).below hb8; have hgv8 := Blk.lt hG8.box)
            | (go_at_call 98; refine (kp2 w8 hG8.t).mono ?_; rintro e w6 ⟨v6, rfl, ht6, hf6, hk6⟩))
        have hG6 := hG8.table ht6 (put_R _ _ _) hf6 hk6
        have hP6 : Blk w6 b 119 #[.int .i64 mc, .int .i64 de, .bool true, .bool fr, .int .i64 (A : Int), .string tx] := (hk6.block b (Nat.lt_of_lt_of_le hb7 hb8.size) hfb9).trans ((hb8.block b hb7).trans hP7)
        have hb88 : Below U.heap.size U w8 := (below_drewN (Below.refl U.heap.size U) 1).trans hb8
        have hK8 := hK7.then (hb88.mono hS7)
        have hK6 := hK8.trans hk6 (foot_back hF9)
        have hF6 := far_trans hF9 hf6 hK8.size
        have hfb6 : ¬ foot gt gr v6 b := fun h => hfb9 (foot_back hf6 b (Nat.lt_of_lt_of_le hb7 hb8.size) h)
        clear hG7 hP7 hK7 hS7 hb8 hG8 ht6 hf6 hk6 hb88 hK8 kz kp2 g0 g1 hgv hap7 hgv8
        have g0 := Blk.cell hG6.box 0 (v := .pointer (some ⟨gt, 0, none⟩)) rfl
        have kd := TbR.pad_any w6 B gt gr v6 (putS (putS S (A : Int) tx) (M : Int) (zz k)) (191 - (D : Int)) hG6.t HO2.out.1
        go_wp2_with fail
        (with_reducible refine (kd).mono ?_); rintro e4 W4 ⟨rfl, ht4, hk4⟩
        have hqR : (padS (putS (putS S (A : Int) tx) (M : Int) (zz k)) (191 - (D : Int))).R = (putS (putS S (A : Int) tx) (M : Int) (zz k)).R := by unfold padS; split <;> rfl
        have hG4 := hG6.table ht4 hqR (Or.inl rfl) hk4
        have hK4 := hK6.trans hk4 (foot_back hF6)
        have hP4 := (hk4.block b (Blk.lt hP6) hfb6).trans hP6
        have z3 := Blk.cell (show Blk W4 b 119 #[.int .i64 mc, .int .i64 de, .bool true, .bool fr, .int .i64 (A : Int), .string tx] from hP4) 3 (v := .bool fr) rfl
        have hTT : grmT S mac t = padS (putS (putS S (A : Int) tx) (M : Int) (zz k)) (191 - (D : Int)) := by
          unfold grmT usedN endN
          rw [if_neg (by rw [HG0.out]; simp), hp, HRR.out]
          dsimp only
          rw [if_pos rfl, Int.toNat_natCast, HDM.out.2, show (M + 256 - 1) / 256 = D by have := HDM.out; omega, HK.out]
        have HF := Lib.hid (show GrmIn w B g gt gr v S mac n t (.returned (.tuple #[.bool fr, .int .i64 0])) W4 from ⟨by rw [HG0.out]; unfold grmF; rw [if_neg (by rw [HG0.out]; simp), hp], ⟨v6, by rw [hTT]; exact hG4, hF6⟩, hK4⟩)
        clear hG4 hK4 hP4 hTT hqR hG6 hK6 hP6 ht4 hk4 kd g0 hp hF6 hfb6 hF9 HO2
        go_wp2_with fail
        rw [HQ.out]
        exact HF.out
    · have hps : putS S at_ tx = S := by unfold putS; rw [if_pos (Or.inl h2)]
      rw [hps] at hG9
      have hgn : grmE S.R mac t ≠ 0 := by rw [HGE.out]; exact h2
      have HF := Lib.hid (show GrmIn w B g gt gr v S mac n t (.returned (.tuple #[.bool false, .int .i64 (putE S.R at_ tx)])) w9 from ⟨by rw [HGE.out]; unfold grmF; rw [if_pos hgn], ⟨v9, by unfold grmT; rw [if_pos hgn]; exact hG9, hF9⟩, hK9⟩)
      clear hG9 hK9 hF9 hP9 hp hgn hps h2
      go_wp2_with fail
      rw [HQ.out]
      exact HF.out
  · have t1 : decide (0 ≤ mac) = false := decide_eq_false h1
    clear h1 hm
    obtain ⟨p, hp⟩ : ∃ p, mdP t = p := ⟨_, rfl⟩
    rw [hp] at kd
    obtain ⟨mc, ⟨de, ta, fr, at_⟩, tx⟩ := p
    unfold Mp.vals at kd
    dsimp only at kd
    go_enter Tryz.func72, Tryz.ntmps72
    go_wp2_with fail
    (with_reducible refine (kd).mono ?_); rintro e1 W1 ⟨rfl, hb1⟩
    have hV := HH.out.below hb1
    have hge := GaA.ge hV
    have HK0 := Lib.hid hb1
    have hn := Blk.new W1 119 #[.int .i64 mc, .int .i64 de, .bool ta, .bool fr, .int .i64 at_, .string tx]
    have hbe := (Below.refl W1.heap.size W1).alloc (Nat.le_refl _) (.cells #[.int .i64 mc, .int .i64 de, .bool ta, .bool fr, .int .i64 at_, .string tx] 119)
    have hV2 := hV.below hbe
    clear kd hb1
    go_wp2_with fail
    refine wp_gen (fun W => Blk W W1.heap.size 119 #[.int .i64 mc, .int .i64 de, .bool ta, .bool fr, .int .i64 at_, .string tx] ∧ GaA W B g gt gr v S mac n ∧ Below W1.heap.size W1 W) ⟨hn, hV2, hbe⟩ ?_
    rintro V ⟨hP, hG, hBV⟩
    clear hn hV2 hbe hV
    obtain ⟨b, hb⟩ : ∃ b, W1.heap.size = b := ⟨_, rfl⟩
    rw [hb] at hP hge
    rw [hb]
    rw [hb] at hBV
    have HBV := Lib.hid (HK0.out.trans (hBV.mono (by have := HK0.out.size; omega)))
    have x0 := fun pX => Blk.cell (blk_ext (hP) pX) 0 (v := .int .i64 mc) rfl
    have x1 := fun pX => Blk.cell (blk_ext (hP) pX) 1 (v := .int .i64 de) rfl
    have x2 := fun pX => Blk.cell (blk_ext (hP) pX) 2 (v := .bool ta) rfl
    have x3 := fun pX => Blk.cell (blk_ext (hP) pX) 3 (v := .bool fr) rfl
    have x4 := fun pX => Blk.cell (blk_ext (hP) pX) 4 (v := .int .i64 at_) rfl
    have x5 := fun pX => Blk.cell (blk_ext (hP) pX) 5 (v := .string tx) rfl
    have g2 := fun p => Blk.cell (blk_ext hG.box p) 2 (v := .int .i64 mac) rfl
    rw [hp] at HCK HTX HGE
    dsimp only at HCK HTX HGE
    refine Go.Proofs.YthgcmlhmhojjhaaGreatDoor.Q.region_ext (by kernel_rfl) (by kernel_rfl) ?_
    repeat (go_big_quiet_step (fail))
    refine wpQuiet_nil ?_
    rintro w9 ⟨pq, rfl⟩
    have hbx := below_ext V pq
    have hGx := hG.below hbx
    have hPx := Blk.below hP hbx (Blk.lt hP)
    have HBU := Lib.hid (HBV.out.trans (hbx.mono HBV.out.size))
    obtain ⟨U, hU⟩ : ∃ U, ext V pq = U := ⟨_, rfl⟩
    rw [hU] at hGx hPx HBU ⊢
    clear hU hbx hG hP x0 x1 x2 x3 x4 x5 g2 HBV hBV
    go_wp2_with fail
    have x0 := Blk.cell (hPx) 0 (v := .int .i64 mc) rfl
    have x1 := Blk.cell (hPx) 1 (v := .int .i64 de) rfl
    have x2 := Blk.cell (hPx) 2 (v := .bool ta) rfl
    have x3 := Blk.cell (hPx) 3 (v := .bool fr) rfl
    have x4 := Blk.cell (hPx) 4 (v := .int .i64 at_) rfl
    have x5 := Blk.cell (hPx) 5 (v := .string tx) rfl
    have g0 := Blk.cell hGx.box 0 (v := .pointer (some ⟨gt, 0, none⟩)) rfl
    have hGd := hGx.below (below_drewN (Below.refl U.heap.size U) 1)
    have kp := TbP.put_any U.drew B gt gr v S at_ tx hGd.t HO.out HTX.out
    have hgv := Blk.lt hGx.box
    have hbv := Blk.lt hPx
    have hfb : ¬ foot gt gr v b := fun h => by have := (hge b (Or.inr h)).2; omega
    have hap := hGx.ap
    go_region_held3 (fun w' => w'.cell? ⟨g, 0, none⟩ = some (.pointer (some ⟨gt, 0, none⟩)) ∧ w'.cell? ⟨b, 4, none⟩ = some (.int .i64 at_) ∧ w'.cell? ⟨b, 5, none⟩ = some (.string tx))
      (first
        | exact ⟨g0, x4, x5⟩
        | exact ⟨(hk9.cell (p := ⟨g, 0, none⟩) hgv hap).trans g0, (hk9.cell (p := ⟨b, 4, none⟩) hbv hfb).trans x4, (hk9.cell (p := ⟨b, 5, none⟩) hbv hfb).trans x5⟩)
      ((go_at_call 98; refine kp.mono ?_; rintro e w9 ⟨v9, rfl, ht9, hf9, hk9⟩))
    have hG9 := hGd.table ht9 (put_R S at_ tx) hf9 hk9
    have hK9 : Kept (foot gt gr v) w w9 := Kept.pre (below_drewN HBU.out 1) hk9
    have hP9 : Blk w9 b 119 #[.int .i64 mc, .int .i64 de, .bool ta, .bool fr, .int .i64 at_, .string tx] := (hk9.block b hbv hfb).trans hPx
    have hfb9 : ¬ foot gt gr v9 b := fun h => hfb (foot_back hf9 b hbv h)
    have hF9 : far w v v9 := hf9.imp id (fun ⟨j, h1, h2⟩ => ⟨j, h1, Nat.le_trans HBU.out.size h2⟩)
    have HBU9 := Lib.hid HBU.out.size
    clear hk9 ht9 hGd hGx hPx kp g0 x0 x1 x2 x3 x4 x5 hf9 hgv hbv hge
    have hz : putE S.R at_ tx = 0 ∨ ((putE S.R at_ tx == 0) = false ∧ putE S.R at_ tx ≠ 0) := by
      by_cases h : putE S.R at_ tx = 0
      · exact Or.inl h
      · exact Or.inr ⟨beq_eq_false_iff_ne.2 h, h⟩
    rcases hz with h0 | ⟨h1, h2⟩
    · rw [h0]
      have HG0 := Lib.hid (HGE.out.trans h0)
      have HPE := Lib.hid h0
      clear h0 HGE
      cases ta with
      | false =>
        have x0 := Blk.cell (hP9) 0 (v := .int .i64 mc) rfl
        have x1 := Blk.cell (hP9) 1 (v := .int .i64 de) rfl
        have x2 := Blk.cell (hP9) 2 (v := .bool false) rfl
        have x3 := Blk.cell (hP9) 3 (v := .bool fr) rfl
        have x4 := Blk.cell (hP9) 4 (v := .int .i64 at_) rfl
        have x5 := Blk.cell (hP9) 5 (v := .string tx) rfl
        have HF := Lib.hid (show GrmIn w B g gt gr v S mac n t (.returned (.tuple #[.bool fr, .int .i64 0])) w9 from ⟨by rw [HG0.out]; unfold grmF; rw [if_neg (by rw [HG0.out]; simp), hp], ⟨v9, by unfold grmT; rw [if_neg (by rw [HG0.out]; simp), hp]; exact hG9, hF9⟩, hK9⟩)
        clear hG9 hK9 hF9 hP9 hp
        go_wp2_with fail
        rw [HQ.out]
        exact HF.out
      | true =>
        have x0 := Blk.cell (hP9) 0 (v := .int .i64 mc) rfl
        have x1 := Blk.cell (hP9) 1 (v := .int .i64 de) rfl
        have x2 := Blk.cell (hP9) 2 (v := .bool true) rfl
        have x3 := Blk.cell (hP9) 3 (v := .bool fr) rfl
        have x4 := Blk.cell (hP9) 4 (v := .int .i64 at_) rfl
        have x5 := Blk.cell (hP9) 5 (v := .string tx) rfl
        have g1 := fun p => Blk.cell (blk_ext hG9.box p) 1 (v := .int .i64 256) (by rw [put_R, HRR.out]; rfl)
        have hb9 : 0 ≤ at_ ∧ at_ + (tx.size : Int) ≤ 48896 := by
          have h1 := HPE.out
          rw [HRR.out] at h1
          unfold putE at h1
          by_cases h2 : at_ < 0 ∨ ((191 * 256 : Nat) : Int) < at_ ∨ ((191 * 256 : Nat) : Int) - at_ < tx.size
          · rw [if_pos h2] at h1; exact absurd h1 (by decide)
          · omega
        obtain ⟨A, rfl⟩ : ∃ A : Nat, at_ = (A : Int) := ⟨at_.toNat, by omega⟩
        have A0 : (0 : Int) ≤ (A : Int) := Int.natCast_nonneg _
        have A1 : (A : Int) + (tx.size : Int) ≤ 48896 := hb9.2
        clear hb9
        go_wp2_with fail
        refine Go.Proofs.YthgcmlhmhojjhaaGreatDoor.Q.region_ext (by kernel_rfl) (by kernel_rfl) ?_
        repeat (go_big_quiet_step (fail))
        refine wpQuiet_nil ?_
        rintro w7 ⟨pq, rfl⟩
        have hbx := below_ext w9 pq
        have hG7 := hG9.below hbx
        have hP7 := Blk.below hP9 hbx (Blk.lt hP9)
        have hK7 := hK9.then (hbx.mono hK9.size)
        have hS7 : w.heap.size ≤ (ext w9 pq).heap.size := hK7.size
        obtain ⟨U, hU⟩ : ∃ U, ext w9 pq = U := ⟨_, rfl⟩
        rw [hU] at hG7 hP7 hK7 hS7 ⊢
        clear hU hbx hG9 hP9 hK9 x0 x1 x2 x3 x4 x5 g1
        obtain ⟨D, hD⟩ : ∃ D, (A + tx.size + 255) / 256 = D := ⟨_, rfl⟩
        obtain ⟨M, hM⟩ : ∃ M, A + tx.size = M := ⟨_, rfl⟩
        rw [show ((A : Int) + (tx.size : Int) + 256 - 1) / 256 = (D : Int) by omega, show (A : Int) + (tx.size : Int) = (M : Int) by omega]
        have HDM := Lib.hid (And.intro hD hM)
        have D1 : (D : Int) ≤ 191 := by omega
        have D2 : M ≤ D * 256 := by omega
        have M0 : (M : Int) ≤ 48896 := by omega
        clear hD hM A0 A1
        have D0 : (0 : Int) ≤ (D : Int) := Int.natCast_nonneg _
        have g0 := Blk.cell hG7.box 0 (v := .pointer (some ⟨gt, 0, none⟩)) rfl
        have g1 := Blk.cell hG7.box 1 (v := .int .i64 256) (by rw [put_R, HRR.out]; rfl)
        have hgv := Blk.lt hG7.box
        have hap7 := hG7.ap
        obtain ⟨k, hk⟩ : ∃ k, D * 256 - M = k := ⟨_, rfl⟩
        have HK := Lib.hid hk
        have kz : ∀ V, Calls Tryz.prog 99 #[.string ⟨#[0]⟩, .int .i64 (IntKind.i64.wrap (IntKind.i64.wrap ((D : Int) * 256) - (M : Int)))] V fun e w' => e = .returned (.string (zz k)) ∧ Below V.heap.size V w' := fun V => by
          have := zz_any k V (by omega)
          rw [show IntKind.i64.wrap (IntKind.i64.wrap ((D : Int) * 256) - (M : Int)) = (k : Int) by
            have e1 : IntKind.i64.wrap ((D : Int) * 256) = (D : Int) * 256 := by rw [IntKind.wrap_i64]; omega
            have e2 : IntKind.i64.wrap ((D : Int) * 256 - (M : Int)) = (D : Int) * 256 - (M : Int) := by rw [IntKind.wrap_i64]; omega
            rw [e1, e2]; omega]
          exact this
        have hk9 : k ≤ 48896 := by omega
        have ho1 := LaB.put_ok HO.out (by have := HST.out; omega) (A : Int) tx
        have kp2 := fun W (h : TbIn W B gt gr v9 (putS S (A : Int) tx)) => TbP.put_any W B gt gr v9 (putS S (A : Int) tx) (M : Int) (zz k) h ho1.1 (by rw [zz_size]; omega)
        have HO2 := Lib.hid (LaB.put_ok ho1.1 (by have := HST.out; have := ho1.2; omega) (M : Int) (zz k))
        have hb7 : b < U.heap.size := Blk.lt hP7
        clear hk ho1
        go_wp2_with fail
        go_region_held3 (fun w' => w'.cell? ⟨g, 0, none⟩ = some (.pointer (some ⟨gt, 0, none⟩)) ∧ w'.cell? ⟨g, 1, none⟩ = some (.int .i64 256))
          (first
            | exact ⟨g0, g1⟩
            | exact ⟨(hb8.cell (p := ⟨g, 0, none⟩) hgv).trans g0, (hb8.cell (p := ⟨g, 1, none⟩) hgv).trans g1⟩
            | exact ⟨(hk6.cell (p := ⟨g, 0, none⟩) hgv8 hap7).trans ((hb8.cell (p := ⟨g, 0, none⟩) hgv).trans g0), (hk6.cell (p := ⟨g, 1, none⟩) hgv8 hap7).trans ((hb8.cell (p := ⟨g, 1, none⟩) hgv).trans g1)⟩)
          (first
            | (go_at_call 99; refine (kz U.drew).mono ?_; rintro e w8 ⟨rfl, hb8⟩; have hG8 := (hG7.below (below_drewN (Below.refl U.heap.size U) 1)).below hb8; have hgv8 := Blk.lt hG8.box)
            | (go_at_call 98; refine (kp2 w8 hG8.t).mono ?_; rintro e w6 ⟨v6, rfl, ht6, hf6, hk6⟩))
        have hG6 := hG8.table ht6 (put_R _ _ _) hf6 hk6
        have hP6 : Blk w6 b 119 #[.int .i64 mc, .int .i64 de, .bool true, .bool fr, .int .i64 (A : Int), .string tx] := (hk6.block b (Nat.lt_of_lt_of_le hb7 hb8.size) hfb9).trans ((hb8.block b hb7).trans hP7)
        have hb88 : Below U.heap.size U w8 := (below_drewN (Below.refl U.heap.size U) 1).trans hb8
        have hK8 := hK7.then (hb88.mono hS7)
        have hK6 := hK8.trans hk6 (foot_back hF9)
        have hF6 := far_trans hF9 hf6 hK8.size
        have hfb6 : ¬ foot gt gr v6 b := fun h => hfb9 (foot_back hf6 b (Nat.lt_of_lt_of_le hb7 hb8.size) h)
        clear hG7 hP7 hK7 hS7 hb8 hG8 ht6 hf6 hk6 hb88 hK8 kz kp2 g0 g1 hgv hap7 hgv8
        have g0 := Blk.cell hG6.box 0 (v := .pointer (some ⟨gt, 0, none⟩)) rfl
        have kd := TbR.pad_any w6 B gt gr v6 (putS (putS S (A : Int) tx) (M : Int) (zz k)) (191 - (D : Int)) hG6.t HO2.out.1
        go_wp2_with fail
        (with_reducible refine (kd).mono ?_); rintro e4 W4 ⟨rfl, ht4, hk4⟩
        have hqR : (padS (putS (putS S (A : Int) tx) (M : Int) (zz k)) (191 - (D : Int))).R = (putS (putS S (A : Int) tx) (M : Int) (zz k)).R := by unfold padS; split <;> rfl
        have hG4 := hG6.table ht4 hqR (Or.inl rfl) hk4
        have hK4 := hK6.trans hk4 (foot_back hF6)
        have hP4 := (hk4.block b (Blk.lt hP6) hfb6).trans hP6
        have z3 := Blk.cell (show Blk W4 b 119 #[.int .i64 mc, .int .i64 de, .bool true, .bool fr, .int .i64 (A : Int), .string tx] from hP4) 3 (v := .bool fr) rfl
        have hTT : grmT S mac t = padS (putS (putS S (A : Int) tx) (M : Int) (zz k)) (191 - (D : Int)) := by
          unfold grmT usedN endN
          rw [if_neg (by rw [HG0.out]; simp), hp, HRR.out]
          dsimp only
          rw [if_pos rfl, Int.toNat_natCast, HDM.out.2, show (M + 256 - 1) / 256 = D by have := HDM.out; omega, HK.out]
        have HF := Lib.hid (show GrmIn w B g gt gr v S mac n t (.returned (.tuple #[.bool fr, .int .i64 0])) W4 from ⟨by rw [HG0.out]; unfold grmF; rw [if_neg (by rw [HG0.out]; simp), hp], ⟨v6, by rw [hTT]; exact hG4, hF6⟩, hK4⟩)
        clear hG4 hK4 hP4 hTT hqR hG6 hK6 hP6 ht4 hk4 kd g0 hp hF6 hfb6 hF9 HO2
        go_wp2_with fail
        rw [HQ.out]
        exact HF.out
    · have hps : putS S at_ tx = S := by unfold putS; rw [if_pos (Or.inl h2)]
      rw [hps] at hG9
      have hgn : grmE S.R mac t ≠ 0 := by rw [HGE.out]; exact h2
      have HF := Lib.hid (show GrmIn w B g gt gr v S mac n t (.returned (.tuple #[.bool false, .int .i64 (putE S.R at_ tx)])) w9 from ⟨by rw [HGE.out]; unfold grmF; rw [if_pos hgn], ⟨v9, by unfold grmT; rw [if_pos hgn]; exact hG9, hF9⟩, hK9⟩)
      clear hG9 hK9 hF9 hP9 hp hgn hps h2
      go_wp2_with fail
      rw [HQ.out]
      exact HF.out
end Go.Proofs.YthgcmlhmhojjhaaGreatDoor.BuO
