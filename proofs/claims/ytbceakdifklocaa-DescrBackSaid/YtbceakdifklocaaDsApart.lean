/- DescrApart: the plain law, and the walk. -/
import Derived.Test.YtbceakdifklocaaDsE
import Derived.Deep.RegionHeld3
namespace Go.Proofs.Ytbceakdifklocaa.DsApart
open Go.RowKit Go.Proofs.Ytbceakdifklocaa.Q Go.Proofs.Ytbceakdifklocaa.Mem Go.Proofs.Ytbceakdifklocaa.DsA Go.Proofs.Ytbceakdifklocaa.DsB Go.Proofs.Ytbceakdifklocaa.DsC Go.Proofs.Ytbceakdifklocaa.DsD Go.Proofs.Ytbceakdifklocaa.DsE

theorem byte_inj {a b : Int} (ha : 0 ≤ a ∧ a ≤ 255) (hb : 0 ≤ b ∧ b ≤ 255) (h : UInt8.ofNat a.toNat = UInt8.ofNat b.toNat) : a = b := by
  have := congrArg UInt8.toNat h
  simp at this
  omega
theorem son_data (l : List Int) : (strOfNums l).data.toList = l.map fun n => UInt8.ofNat n.toNat := rfl
theorem body_list (l : List Int) (m : ByteArray) : (strOfNums l ++ m).data.toList = (l.map fun n => UInt8.ofNat n.toNat) ++ m.data.toList := by
  rw [ByteArray.data_append, Array.toList_append, son_data]
theorem ba_ext {a b : ByteArray} (h : a.data.toList = b.data.toList) : a = b := by
  obtain ⟨⟨x⟩⟩ := a
  obtain ⟨⟨y⟩⟩ := b
  simp at h
  rw [h]
theorem sl_parts {x : Sl} (h : x.makeE = 0) : okRows x.rows ∧ (0 ≤ x.burst ∧ x.burst ≤ 255) ∧ (0 ≤ x.rate ∧ x.rate ≤ 15) ∧ (0 ≤ x.id ∧ x.id ≤ 15) ∧ x.more.size ≤ 252 := by
  unfold Sl.makeE at h
  cases hm : x.may with
  | false => rw [hm] at h; simp at h
  | true =>
    rw [hm] at h
    simp only [Sl.may, in1, Bool.and_eq_true, decide_eq_true_eq] at hm
    obtain ⟨⟨⟨h1, h2⟩, h3⟩, h4⟩ := hm
    refine ⟨h1, h2, h3, h4, ?_⟩
    by_cases h5 : 252 < x.more.size
    · simp [h5] at h
    · omega
theorem b0_inj (a b c d : Bool) (r s : Int) (hr : okRows r) (hs : okRows s)
    (h : (if a = true then (128 : Int) else 0) + (if b = true then 32 else 0) + 24 + r / 256 - 1 = (if c = true then 128 else 0) + (if d = true then 32 else 0) + 24 + s / 256 - 1) : a = c ∧ b = d ∧ r = s := by
  unfold okRows at hr hs
  cases a <;> cases b <;> cases c <;> cases d <;> simp at h ⊢ <;> omega
theorem b0_range {x : Sl} (h : okRows x.rows) : 0 ≤ x.b0 ∧ x.b0 ≤ 255 := by
  unfold Sl.b0
  unfold okRows at h
  cases x.sl <;> cases x.fec <;> simp <;> omega
/-- P18.2, P18.5 -/
theorem sl_inj {x y : Sl} (hx : x.makeE = 0) (hy : y.makeE = 0) (h : slD x = slD y) : x = y := by
  obtain ⟨a1, a2, a3, a4, _⟩ := sl_parts hx
  obtain ⟨b1, b2, b3, b4, _⟩ := sl_parts hy
  unfold slD at h
  rw [if_pos hx, if_pos hy] at h
  have hb := congrArg (fun d => d.body.data.toList) h
  simp only [Sl.body, body_list, List.map_cons, List.map_nil, List.cons_append, List.nil_append, List.cons.injEq] at hb
  obtain ⟨h1, h2, h3, h4⟩ := hb
  have e1 := byte_inj (b0_range a1) (b0_range b1) h1
  have e2 := byte_inj a2 b2 h2
  have e3 := byte_inj (by omega) (by omega) h3
  obtain ⟨f1, f2, f3⟩ := b0_inj _ _ _ _ _ _ a1 b1 e1
  exact sl_iff.2 ⟨f1, f2, f3, e2, by omega, by omega, ba_ext h4⟩
theorem pl_parts {x : Pl} (h : x.makeE = 0) : (0 ≤ x.n ∧ x.n ≤ 65535) ∧ (0 ≤ x.o ∧ x.o ≤ 65535) ∧ (0 ≤ x.s ∧ x.s ≤ 65535) ∧ (0 ≤ x.v ∧ x.v ≤ 65535) ∧ (0 ≤ x.t ∧ x.t ≤ 255) := by
  unfold Pl.makeE at h
  cases hm : (inB 65535 x.four && in1 255 x.t) with
  | false => rw [hm] at h; simp at h
  | true =>
    simp only [Pl.four, inB, in1, List.all_cons, List.all_nil, Bool.and_true, Bool.and_eq_true, decide_eq_true_eq] at hm
    obtain ⟨⟨h1, h2, h3, h4⟩, h5⟩ := hm
    exact ⟨h1, h2, h3, h4, h5⟩
/-- P18.3, P18.5 -/
theorem pl_inj {x y : Pl} (hx : x.makeE = 0) (hy : y.makeE = 0) (h : plD x = plD y) : x = y := by
  obtain ⟨a1, a2, a3, a4, a5⟩ := pl_parts hx
  obtain ⟨b1, b2, b3, b4, b5⟩ := pl_parts hy
  unfold plD at h
  rw [if_pos hx, if_pos hy] at h
  have hb := congrArg (fun d => d.body.data.toList) h
  simp only [Pl.body, twos, Pl.four, son_data, List.flatMap_cons, List.flatMap_nil, List.cons_append, List.nil_append, List.map_cons, List.map_nil, List.cons.injEq] at hb
  obtain ⟨h1, h2, h3, h4, h5, h6, h7, h8, h9, _⟩ := hb
  have e1 := byte_inj (by omega) (by omega) h1
  have e2 := byte_inj (by omega) (by omega) h2
  have e3 := byte_inj (by omega) (by omega) h3
  have e4 := byte_inj (by omega) (by omega) h4
  have e5 := byte_inj (by omega) (by omega) h5
  have e6 := byte_inj (by omega) (by omega) h6
  have e7 := byte_inj (by omega) (by omega) h7
  have e8 := byte_inj (by omega) (by omega) h8
  have e9 := byte_inj a5 b5 h9
  exact pl_iff.2 ⟨by omega, by omega, by omega, by omega, e9⟩
theorem sl_law {x y : Sl} (hx : x.makeE = 0) (hy : y.makeE = 0) : decide (slD x = slD y) = decide (x = y) := by
  by_cases h : x = y
  · simp [h]
  · have : ¬ slD x = slD y := fun hh => h (sl_inj hx hy hh)
    simp [h, this]
theorem pl_law {x y : Pl} (hx : x.makeE = 0) (hy : y.makeE = 0) : decide (plD x = plD y) = decide (x = y) := by
  by_cases h : x = y
  · simp [h]
  · have : ¬ plD x = plD y := fun hh => h (pl_inj hx hy hh)
    simp [h, this]
theorem pl_tag {x : Pl} (hx : x.makeE = 0) : (plD x).tag = 19 := by unfold plD; rw [if_pos hx]
end Go.Proofs.Ytbceakdifklocaa.DsApart
