/- The gatherer: Take of a datagram. -/
import Derived.Test.YthgcmlhmhojjhaaGreatDoorBuP
namespace Go.Proofs.YthgcmlhmhojjhaaGreatDoor.BuQ
open Go Go.RowKit Go.Proofs.YthgcmlhmhojjhaaGreatDoor.Q Go.Proofs.YthgcmlhmhojjhaaGreatDoor.Mem Go.Proofs.YthgcmlhmhojjhaaGreatDoor.Rg Go.Proofs.YthgcmlhmhojjhaaGreatDoor.Ap Go.Proofs.YthgcmlhmhojjhaaGreatDoor.St Go.Proofs.YthgcmlhmhojjhaaGreatDoor.Tab Go.Proofs.YthgcmlhmhojjhaaGreatDoor.TmA Go.Proofs.YthgcmlhmhojjhaaGreatDoor.TbM Go.Proofs.YthgcmlhmhojjhaaGreatDoor.TbO Go.Proofs.YthgcmlhmhojjhaaGreatDoor.TbP Go.Proofs.YthgcmlhmhojjhaaGreatDoor.BuA Go.Proofs.YthgcmlhmhojjhaaGreatDoor.BuI Go.Proofs.YthgcmlhmhojjhaaGreatDoor.BuN Go.Proofs.YthgcmlhmhojjhaaGreatDoor.BuO Go.Proofs.YthgcmlhmhojjhaaGreatDoor.BuP

set_option maxRecDepth 100000
set_option maxHeartbeats 3200000 in
theorem take_m (w : World) (B g gt gr : Nat) (v : Value) (S : Tb) (mac : Int) (n : Nat) (t : ByteArray) (h : GaA w B g gt gr v S mac n) (hok : Ok S) (hst : S.st.length ≤ 90000) (hR : S.R = 256) (hs : t.size ≤ 1099511627776) (hn : n ≤ 1000000) (h1 : isM t = true) :
    Calls Tryz.prog 11 #[.pointer (some ⟨g, 0, none⟩), .string t] w fun e w' => TkIn w B g gt gr v S mac n t e w' := by
  have kf := find_m t w h1
  unfold KM at kf
  have HH := Lib.hid h
  have HK := Lib.hid (And.intro hok (And.intro hst (And.intro hR h1)))
  clear h hok hst hR h1
  go_enter Tryz.func11, Tryz.ntmps11
  go_wp2_with fail
  (with_reducible refine (kf).mono ?_); rintro e1 W1 ⟨rfl, hb1⟩
  have HB := Lib.hid (hb1.alloc hb1.size (.cells KM 83))
  have kg := gram_all (W1.alloc (.cells KM 83)) B g gt gr v S mac n t (HH.out.below HB.out) HK.out.1 HK.out.2.1 HK.out.2.2.1 hs
  have y3 := Blk.cell (Blk.new W1 83 KM) 3 (v := .func (.func 72) #[] #[]) rfl
  unfold KM at kg y3
  clear kf hb1
  go_wp2_with fail
  trace_state
  refine kg.mono ?_
  rintro e2 W2 ⟨rfl, ⟨v2, hg2, hf2⟩, hk2⟩
  have hz : grmE S.R mac t = 0 ∨ ((grmE S.R mac t == 0) = false ∧ grmE S.R mac t ≠ 0) := by
    by_cases h : grmE S.R mac t = 0
    · exact Or.inl h
    · exact Or.inr ⟨beq_eq_false_iff_ne.2 h, h⟩
  have hE : tkE S.R mac t = grmE S.R mac t := by unfold tkE; rw [HK.out.2.2.2]; rfl
  have hF : tkF S.R mac t = grmF S.R mac t := by unfold tkF; rw [HK.out.2.2.2]; rfl
  have hTT : tkT S mac t = grmT S mac t := by unfold tkT; rw [HK.out.2.2.2]; rfl
  have hfar : far w v v2 := hf2.imp id (fun ⟨j, h1, h2⟩ => ⟨j, h1, Nat.le_trans HB.out.size h2⟩)
  have hkk : Kept (foot gt gr v) w W2 := Kept.pre HB.out hk2
  obtain ⟨E, hEE⟩ : ∃ E, grmE S.R mac t = E := ⟨_, rfl⟩
  obtain ⟨F, hFF⟩ : ∃ F, grmF S.R mac t = F := ⟨_, rfl⟩
  rw [hEE] at hz hE ⊢
  rw [hFF] at hF ⊢
  have HA := Lib.hid (And.intro hE (And.intro hF hTT))
  have HG2 := Lib.hid hg2
  have HKK := Lib.hid (And.intro hfar hkk)
  have c3 := Blk.cell hg2.box 3 (v := .int .i64 (n : Int)) rfl
  have f3 := Blk.frozen hg2.box 3
  have n0 : (0 : Int) ≤ (n : Int) := Int.natCast_nonneg _
  have n1 : (n : Int) ≤ 1000000 := by omega
  clear hg2 hf2 hk2 hE hF hTT hfar hkk kg hEE hFF y3
  rcases hz with h0 | ⟨h1, h2⟩
  · subst h0
    go_wp2_with fail
    go_ret2
    have hn1 : tkN S.R mac t n = n + 1 := by unfold tkN; rw [HA.out.1, if_pos rfl]
    have hset : Kept (fun i => i = g) W2 (W2.setCell ⟨g, 3, none⟩ (.int .i64 ((n : Int) + 1))) := kept_set rfl
    have hgt := HG2.out.t.kept hset (fun i hi e => HG2.out.ap (e ▸ hi))
    refine ⟨by rw [HA.out.1, HA.out.2.1]; rfl, ⟨v2, ?_, HKK.out.1⟩, (HKK.out.2.mono (fun i _ h => Or.inr h)).trans hset (fun i _ e => Or.inl e)⟩
    rw [HA.out.2.2, hn1]
    exact ⟨⟨Blk.set_ HG2.out.box 3 _, hgt, HG2.out.gb⟩, HG2.out.ap⟩
  · have hn0 : tkN S.R mac t n = n := by unfold tkN; rw [HA.out.1, if_neg h2]
    go_wp2_with fail
    go_ret2
    exact ⟨by rw [HA.out.1, HA.out.2.1]; rfl, ⟨v2, by rw [HA.out.2.2, hn0]; exact HG2.out, HKK.out.1⟩, HKK.out.2.mono (fun i _ h => Or.inr h)⟩
end Go.Proofs.YthgcmlhmhojjhaaGreatDoor.BuQ
