/- The gatherer: column. -/
import Derived.Test.YthgcmlhmhojjhaaGreatDoorBuI
import Derived.Test.YthgcmlhmhojjhaaGreatDoorPkF
import Derived.Test.YthgcmlhmhojjhaaGreatDoorPkV
import Derived.Test.YthgcmlhmhojjhaaGreatDoorLaB
import Derived.Deep.RegionHeld3
namespace Go.Proofs.YthgcmlhmhojjhaaGreatDoor.BuN
open Go Go.RowKit Go.Proofs.YthgcmlhmhojjhaaGreatDoor.Q Go.Proofs.YthgcmlhmhojjhaaGreatDoor.Mem Go.Proofs.YthgcmlhmhojjhaaGreatDoor.Rg Go.Proofs.YthgcmlhmhojjhaaGreatDoor.Ap Go.Proofs.YthgcmlhmhojjhaaGreatDoor.St Go.Proofs.YthgcmlhmhojjhaaGreatDoor.Tab Go.Proofs.YthgcmlhmhojjhaaGreatDoor.TmA Go.Proofs.YthgcmlhmhojjhaaGreatDoor.TbM Go.Proofs.YthgcmlhmhojjhaaGreatDoor.TbO Go.Proofs.YthgcmlhmhojjhaaGreatDoor.TbP Go.Proofs.YthgcmlhmhojjhaaGreatDoor.TbR Go.Proofs.YthgcmlhmhojjhaaGreatDoor.FcA Go.Proofs.YthgcmlhmhojjhaaGreatDoor.FcC Go.Proofs.YthgcmlhmhojjhaaGreatDoor.BuI

set_option maxRecDepth 100000
theorem Blk.fm_ne {w : World} {g gr N : Nat} {t e : TypeId} {cs : Array Value} {f : Nat → Value} (h : Blk w g t cs) (hf : Fm w gr e N f) (hne : t ≠ e) : gr ≠ g := by
  rintro rfl
  obtain ⟨A, hA, _⟩ := hf
  unfold Blk at h
  rw [hA] at h
  injection h with h
  injection h with _ h2
  exact hne h2.symm
/-- a gatherer and its table are apart -/
structure GaA (w : World) (B g gt gr : Nat) (v : Value) (S : Tb) (mac : Int) (n : Nat) : Prop extends GaIn w B g gt gr v S mac n where
  ap : ¬ foot gt gr v g
def footG (g gt gr : Nat) (v : Value) (i : Nat) : Prop := i = g ∨ foot gt gr v i
section
variable {w w' : World} {B g gt gr : Nat} {v v' : Value} {S S' : Tb} {mac : Int} {n : Nat}
theorem GaA.below (h : GaA w B g gt gr v S mac n) (k : Below w.heap.size w w') : GaA w' B g gt gr v S mac n := ⟨⟨Blk.below h.box k (Blk.lt h.box), h.t.below k, h.gb⟩, h.ap⟩
theorem GaA.ge (h : GaA w B g gt gr v S mac n) : ∀ i, footG g gt gr v i → B ≤ i ∧ i < w.heap.size := fun i hi => hi.elim (fun e => by subst e; exact ⟨h.gb, Blk.lt h.box⟩) (TbIn.ge h.t i)
/-- the table turned -/
theorem GaA.table (h : GaA w B g gt gr v S mac n) (ht : TbIn w' B gt gr v' S') (hR : S'.R = S.R) (hf : far w v v') (k : Kept (foot gt gr v) w w') : GaA w' B g gt gr v' S' mac n := by
  refine ⟨⟨(k.block g (Blk.lt h.box) h.ap).trans (by rw [hR]; exact h.box), ht, h.gb⟩, ?_⟩
  rintro (e | e | e)
  · exact h.ap (Or.inl e)
  · exact h.ap (Or.inr (Or.inl e))
  · rcases hf with h1 | ⟨j, h1, h2⟩
    · exact h.ap (Or.inr (Or.inr (h1 ▸ e)))
    · rw [h1] at e
      injection e with e
      have := Blk.lt h.box
      omega
end
/-- a column is taken -/
def colE (R : Nat) (t : ByteArray) : Int := if fdE t ≠ 0 then fdE t else parE R (fdP t).number (fdP t).text
def colT (S : Tb) (t : ByteArray) : Tb := if colE S.R t ≠ 0 then S else padS (parS S (fdP t).number (fdP t).text) (fdP t).pad
def colF (R : Nat) (t : ByteArray) : Bool := if colE R t ≠ 0 then false else (fdP t).times.frame
structure ColIn (w : World) (B g gt gr : Nat) (v : Value) (S : Tb) (mac : Int) (n : Nat) (t : ByteArray) (e : Ending) (w' : World) : Prop where
  e : e = .returned (.tuple #[.bool (colF S.R t), .int .i64 (colE S.R t)])
  ga : GaA w' B g gt gr v (colT S t) mac n
  k : Kept (foot gt gr v) w w'
set_option maxHeartbeats 3200000 in
theorem column_any (w : World) (B g gt gr : Nat) (v : Value) (S : Tb) (mac : Int) (n : Nat) (t : ByteArray) (hT : Tab 2 w) (h : GaA w B g gt gr v S mac n) (hok : Ok S) (hs : t.size ≤ 1099511627776) :
    Calls Tryz.prog 76 #[.pointer (some ⟨g, 0, none⟩), .string t] w fun e w' => ColIn w B g gt gr v S mac n t e w' := by
  obtain ⟨Q, hQ⟩ : ∃ Q : Ending → World → Prop, Q = (fun e w' => ColIn w B g gt gr v S mac n t e w') := ⟨_, rfl⟩
  rw [← hQ]
  have HQ := Lib.hid hQ
  have HH := Lib.hid h
  have HO := Lib.hid hok
  have kd := fdec_any t w hT hs
  clear hQ h hok hT
  by_cases hE : fdE t = 0
  · have HCE := Lib.hid (show colE S.R t = parE S.R (fdP t).number (fdP t).text from by unfold colE; rw [if_neg (by rw [hE]; simp)])
    rw [hE] at kd
    have HE := Lib.hid (show colE S.R t ≠ 0 → (colF S.R t = false ∧ colT S t = S) from fun h => ⟨by unfold colF; rw [if_pos h], by unfold colT; rw [if_pos h]⟩)
    have HE0 := Lib.hid (show colE S.R t = 0 → (colF S.R t = (fdP t).times.frame ∧ colT S t = padS (parS S (fdP t).number (fdP t).text) (fdP t).pad) from fun h => ⟨by unfold colF; rw [if_neg (by rw [h]; simp)], by unfold colT; rw [if_neg (by rw [h]; simp)]⟩)
    obtain ⟨p, hp⟩ : ∃ p, fdP t = p := ⟨_, rfl⟩
    rw [hp] at kd HCE HE0
    clear hE hp
    obtain ⟨pd, nu, la, ⟨de, ta, fr, at_⟩, tx⟩ := p
    unfold Fp.vals at kd
    dsimp only at kd HCE HE0
    have hz : parE S.R nu tx = 0 ∨ ((parE S.R nu tx == 0) = false ∧ parE S.R nu tx ≠ 0) := by
      by_cases h : parE S.R nu tx = 0
      · exact Or.inl h
      · exact Or.inr ⟨beq_eq_false_iff_ne.2 h, h⟩
    go_enter Tryz.func76, Tryz.ntmps76
    go_wp2_with fail
    (with_reducible refine (kd).mono ?_); rintro e1 W1 ⟨rfl, hb1⟩
    have hV := HH.out.below hb1
    have hge := GaA.ge hV
    have HK0 := Lib.hid hb1
    have hn := Blk.new W1 123 #[.int .i64 pd, .int .i64 nu, .int .i64 la, .int .i64 de, .bool ta, .bool fr, .int .i64 at_, .string tx]
    have hbe := (Below.refl W1.heap.size W1).alloc (Nat.le_refl _) (.cells #[.int .i64 pd, .int .i64 nu, .int .i64 la, .int .i64 de, .bool ta, .bool fr, .int .i64 at_, .string tx] 123)
    have hV2 := hV.below hbe
    clear kd hb1
    go_wp2_with fail
    refine wp_gen (fun W => Blk W W1.heap.size 123 #[.int .i64 pd, .int .i64 nu, .int .i64 la, .int .i64 de, .bool ta, .bool fr, .int .i64 at_, .string tx] ∧ GaA W B g gt gr v S mac n ∧ Below W1.heap.size W1 W) ⟨hn, hV2, hbe⟩ ?_
    rintro V ⟨hP, hG, hBV⟩
    clear hn hV2 hbe hV
    obtain ⟨b, hb⟩ : ∃ b, W1.heap.size = b := ⟨_, rfl⟩
    rw [hb] at hP hge
    rw [hb]
    rw [hb] at hBV
    have x0 := Blk.cell (hP) 0 (v := .int .i64 pd) rfl
    have x1 := Blk.cell (hP) 1 (v := .int .i64 nu) rfl
    have x2 := Blk.cell (hP) 2 (v := .int .i64 la) rfl
    have x3 := Blk.cell (hP) 3 (v := .int .i64 de) rfl
    have x4 := Blk.cell (hP) 4 (v := .bool ta) rfl
    have x5 := Blk.cell (hP) 5 (v := .bool fr) rfl
    have x6 := Blk.cell (hP) 6 (v := .int .i64 at_) rfl
    have x7 := Blk.cell (hP) 7 (v := .string tx) rfl
    have g0 := Blk.cell hG.box 0 (v := .pointer (some ⟨gt, 0, none⟩)) rfl
    have hGd := hG.below (below_drewN (Below.refl V.heap.size V) 1)
    have kp := TbR.parity_any V.drew B gt gr v S nu tx hGd.t HO.out
    have hgv := Blk.lt hG.box
    have hbv := Blk.lt hP
    have hfb : ¬ foot gt gr v b := fun h => by have := (hge b (Or.inr h)).2; omega
    have hap := hG.ap
    go_region_held3 (fun w' => w'.cell? ⟨g, 0, none⟩ = some (.pointer (some ⟨gt, 0, none⟩)) ∧ w'.cell? ⟨b, 1, none⟩ = some (.int .i64 nu) ∧ w'.cell? ⟨b, 7, none⟩ = some (.string tx))
      (first
        | exact ⟨g0, x1, x7⟩
        | exact ⟨(hk9.cell (p := ⟨g, 0, none⟩) hgv hap).trans g0, (hk9.cell (p := ⟨b, 1, none⟩) hbv hfb).trans x1, (hk9.cell (p := ⟨b, 7, none⟩) hbv hfb).trans x7⟩)
      ((go_at_call 102; refine kp.mono ?_; rintro e w9 ⟨rfl, ht9, hk9⟩))
    have hpR : (TbR.parS S nu tx).R = S.R := by unfold TbR.parS; split <;> rfl
    have hG9 := hGd.table ht9 hpR (Or.inl rfl) hk9
    have hK9 : Kept (foot gt gr v) w w9 := Kept.pre (HK0.out.trans ((show Below b W1 V.drew from below_drewN hBV 1).mono (by have := HK0.out.size; omega))) hk9
    have y0 := (hk9.cell (p := ⟨b, 0, none⟩) hbv hfb).trans x0
    have y5 := (hk9.cell (p := ⟨b, 5, none⟩) hbv hfb).trans x5
    have hbv9 : b < w9.heap.size := Nat.lt_of_lt_of_le hbv hk9.size
    clear hk9 ht9 hGd hG g0 x0 x1 x2 x3 x4 x5 x6 x7 kp hP hBV hgv hge
    rcases hz with h0 | ⟨h1, h2⟩
    · rw [h0]
      have HCF := Lib.hid (HE0.out (HCE.out.trans h0))
      have HC0 := Lib.hid (HCE.out.trans h0)
      clear HE HE0 HCE h0
      have g0 := Blk.cell hG9.box 0 (v := .pointer (some ⟨gt, 0, none⟩)) rfl
      have hGd := hG9.below (below_drewN (Below.refl w9.heap.size w9) 1)
      have kp := TbR.pad_any w9.drew B gt gr v (TbR.parS S nu tx) pd hGd.t (LaB.par_ok HO.out nu tx).1
      have hgv := Blk.lt hG9.box
      go_wp2_with fail
      go_region_held3 (fun w' => w'.cell? ⟨g, 0, none⟩ = some (.pointer (some ⟨gt, 0, none⟩)) ∧ w'.cell? ⟨b, 0, none⟩ = some (.int .i64 pd))
        (first
          | exact ⟨g0, y0⟩
          | exact ⟨(hk8.cell (p := ⟨g, 0, none⟩) hgv hap).trans g0, (hk8.cell (p := ⟨b, 0, none⟩) hbv9 hfb).trans y0⟩)
        ((go_at_call 100; refine kp.mono ?_; rintro e w8 ⟨rfl, ht8, hk8⟩))
      have hqR : (padS (TbR.parS S nu tx) pd).R = (TbR.parS S nu tx).R := by unfold padS; split <;> rfl
      have hG8 := hGd.table ht8 hqR (Or.inl rfl) hk8
      have z5 := (hk8.cell (p := ⟨b, 5, none⟩) hbv9 hfb).trans y5
      have HF := Lib.hid (show ColIn w B g gt gr v S mac n t (.returned (.tuple #[.bool fr, .int .i64 0])) w8 from ⟨by rw [HCF.out.1, HC0.out], by rw [HCF.out.2]; exact hG8, hK9.trans (Kept.pre (below_drewN (Below.refl w9.heap.size w9) 1) hk8) (fun _ _ h => h)⟩)
      clear hG8 hG9 hK9 hk8 ht8 y0 y5 g0
      go_wp2_with fail
      rw [HQ.out]
      exact HF.out
    · have HCF := Lib.hid (HE.out (by rw [HCE.out]; exact h2))
      have hps : TbR.parS S nu tx = S := by unfold TbR.parS; rw [if_pos h2]
      rw [hps] at hG9
      have HF := Lib.hid (show ColIn w B g gt gr v S mac n t (.returned (.tuple #[.bool false, .int .i64 (parE S.R nu tx)])) w9 from ⟨by rw [HCF.out.1, HCE.out], by rw [HCF.out.2]; exact hG9, hK9⟩)
      clear HE HE0 HCE HCF hG9 hK9
      go_wp2_with fail
      rw [HQ.out]
      exact HF.out
  · have hc : colE S.R t = fdE t := by unfold colE; rw [if_pos hE]
    have HE := Lib.hid (show ColIn w B g gt gr v S mac n t (.returned (.tuple #[.bool false, .int .i64 (fdE t)])) w from by
      refine ⟨by rw [hc]; unfold colF; rw [if_pos (by rw [hc]; exact hE)], ?_, Kept.refl _ _⟩
      unfold colT
      rw [if_pos (by rw [hc]; exact hE)]
      exact HH.out)
    have HE9 := Lib.hid (show ∀ w', Below w.heap.size w w' → ColIn w B g gt gr v S mac n t (.returned (.tuple #[.bool false, .int .i64 (fdE t)])) w' from fun w' hb => ⟨HE.out.e, HE.out.ga.below hb, kept_below _ hb⟩)
    have t1 : (fdE t == 0) = false := beq_eq_false_iff_ne.2 hE
    obtain ⟨p, hp⟩ : ∃ p, fdP t = p := ⟨_, rfl⟩
    rw [hp] at kd
    clear hE hc hp HE
    obtain ⟨pd, nu, la, ⟨de, ta, fr, at_⟩, tx⟩ := p
    unfold Fp.vals at kd
    dsimp only at kd
    obtain ⟨E, hE⟩ : ∃ E, fdE t = E := ⟨_, rfl⟩
    rw [hE] at kd HE9 t1
    go_enter Tryz.func76, Tryz.ntmps76
    go_wp2_with fail
    (with_reducible refine (kd).mono ?_); rintro e1 W1 ⟨rfl, hb1⟩
    have HF := Lib.hid (HE9.out _ (hb1.alloc hb1.size (.cells #[.int .i64 pd, .int .i64 nu, .int .i64 la, .int .i64 de, .bool ta, .bool fr, .int .i64 at_, .string tx] 123)))
    clear kd hb1
    go_wp2_with fail
    rw [HQ.out]
    exact HF.out
end Go.Proofs.YthgcmlhmhojjhaaGreatDoor.BuN
