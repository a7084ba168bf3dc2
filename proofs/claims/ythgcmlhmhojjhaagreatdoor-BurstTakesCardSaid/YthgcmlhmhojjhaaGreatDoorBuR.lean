/- The gatherer: Take of a column. Not built yet. -/
import Derived.Test.YthgcmlhmhojjhaaGreatDoorBuQ
namespace Go.Proofs.YthgcmlhmhojjhaaGreatDoor.BuR
open Go Go.RowKit Go.Proofs.YthgcmlhmhojjhaaGreatDoor.Q Go.Proofs.YthgcmlhmhojjhaaGreatDoor.Mem Go.Proofs.YthgcmlhmhojjhaaGreatDoor.Rg Go.Proofs.YthgcmlhmhojjhaaGreatDoor.Ap Go.Proofs.YthgcmlhmhojjhaaGreatDoor.St Go.Proofs.YthgcmlhmhojjhaaGreatDoor.Tab Go.Proofs.YthgcmlhmhojjhaaGreatDoor.TmA Go.Proofs.YthgcmlhmhojjhaaGreatDoor.TbM Go.Proofs.YthgcmlhmhojjhaaGreatDoor.TbO Go.Proofs.YthgcmlhmhojjhaaGreatDoor.TbP Go.Proofs.YthgcmlhmhojjhaaGreatDoor.BuA Go.Proofs.YthgcmlhmhojjhaaGreatDoor.BuI Go.Proofs.YthgcmlhmhojjhaaGreatDoor.BuN Go.Proofs.YthgcmlhmhojjhaaGreatDoor.BuO Go.Proofs.YthgcmlhmhojjhaaGreatDoor.BuP

set_option maxRecDepth 100000
set_option maxHeartbeats 3200000 in
theorem take_f (w : World) (B g gt gr : Nat) (v : Value) (S : Tb) (mac : Int) (n : Nat) (t : ByteArray) (h : GaA w B g gt gr v S mac n) (hok : Ok S) (hst : S.st.length ≤ 90000) (hR : S.R = 256) (hs : t.size ≤ 1099511627776) (hn : n ≤ 1000000) (h1 : isM t = false) (h12 : isF t = true) (hT : Tab 2 w) :
    Calls Tryz.prog 11 #[.pointer (some ⟨g, 0, none⟩), .string t] w fun e w' => TkIn w B g gt gr v S mac n t e w' := by
  have kf := find_f t w h1 h12
  unfold KF at kf
  have HH := Lib.hid h
  have HK := Lib.hid (And.intro hok (And.intro hst (And.intro hR (And.intro h1 h12))))
  have HTB := Lib.hid hT
  clear h hok hst hR h1 h12 hT
  go_enter Tryz.func11, Tryz.ntmps11
  go_wp2_with fail
  (with_reducible refine (kf).mono ?_); rintro e1 W1 ⟨rfl, hb1⟩
  have HB := Lib.hid (hb1.alloc hb1.size (.cells KF 83))
  have kg := column_any (W1.alloc (.cells KF 83)) B g gt gr v S mac n t (HTB.out.be HB.out) (HH.out.below HB.out) HK.out.1 hs
  have y3 := Blk.cell (Blk.new W1 83 KF) 3 (v := .func (.func 76) #[] #[]) rfl
  unfold KF at kg y3
  clear kf hb1
  go_wp2_with fail
  trace_state
  refine kg.mono ?_
  rintro e2 W2 ⟨rfl, hg2, hk2⟩
  have hz : colE S.R t = 0 ∨ ((colE S.R t == 0) = false ∧ colE S.R t ≠ 0) := by
    by_cases h : colE S.R t = 0
    · exact Or.inl h
    · exact Or.inr ⟨beq_eq_false_iff_ne.2 h, h⟩
  have hE : tkE S.R mac t = colE S.R t := by unfold tkE; rw [HK.out.2.2.2.1, HK.out.2.2.2.2]; rfl
  have hF : tkF S.R mac t = colF S.R t := by unfold tkF; rw [HK.out.2.2.2.1, HK.out.2.2.2.2]; rfl
  have hTT : tkT S mac t = colT S t := by unfold tkT; rw [HK.out.2.2.2.1, HK.out.2.2.2.2]; rfl
  have hfar : far w v v := Or.inl rfl
  have hkk : Kept (foot gt gr v) w W2 := Kept.pre HB.out hk2
  obtain ⟨E, hEE⟩ : ∃ E, colE S.R t = E := ⟨_, rfl⟩
  obtain ⟨F, hFF⟩ : ∃ F, colF S.R t = F := ⟨_, rfl⟩
  rw [hEE] at hz hE ⊢
  rw [hFF] at hF ⊢
  have HA := Lib.hid (And.intro hE (And.intro hF hTT))
  have HG2 := Lib.hid hg2
  have HKK := Lib.hid (And.intro hfar hkk)
  have c3 := Blk.cell hg2.box 3 (v := .int .i64 (n : Int)) rfl
  have f3 := Blk.frozen hg2.box 3
  have n0 : (0 : Int) ≤ (n : Int) := Int.natCast_nonneg _
  have n1 : (n : Int) ≤ 1000000 := by omega
  clear hg2 hk2 hE hF hTT hfar hkk kg hEE hFF y3
  rcases hz with h0 | ⟨h1, h2⟩
  · subst h0
    go_wp2_with fail
    go_ret2
    have hn1 : tkN S.R mac t n = n + 1 := by unfold tkN; rw [HA.out.1, if_pos rfl]
    have hset : Kept (fun i => i = g) W2 (W2.setCell ⟨g, 3, none⟩ (.int .i64 ((n : Int) + 1))) := kept_set rfl
    have hgt := HG2.out.t.kept hset (fun i hi e => HG2.out.ap (e ▸ hi))
    refine ⟨by rw [HA.out.1, HA.out.2.1]; rfl, ⟨v, ?_, HKK.out.1⟩, (HKK.out.2.mono (fun i _ h => Or.inr h)).trans hset (fun i _ e => Or.inl e)⟩
    rw [HA.out.2.2, hn1]
    exact ⟨⟨Blk.set_ HG2.out.box 3 _, hgt, HG2.out.gb⟩, HG2.out.ap⟩
  · have hn0 : tkN S.R mac t n = n := by unfold tkN; rw [HA.out.1, if_neg h2]
    go_wp2_with fail
    go_ret2
    exact ⟨by rw [HA.out.1, HA.out.2.1]; rfl, ⟨v, by rw [HA.out.2.2, hn0]; exact HG2.out, HKK.out.1⟩, HKK.out.2.mono (fun i _ h => Or.inr h)⟩
end Go.Proofs.YthgcmlhmhojjhaaGreatDoor.BuR
