/- The law's out. -/
import Derived.Test.YtnjbacdgecoedaaDoorLaC
namespace Go.Proofs.YtnjbacdgecoedaaDoor.LaD
open Go Go.RowKit Go.Proofs.YtnjbacdgecoedaaDoor.Q Go.Proofs.YtnjbacdgecoedaaDoor.Mem Go.Proofs.YtnjbacdgecoedaaDoor.Rg Go.Proofs.YtnjbacdgecoedaaDoor.Ap Go.Proofs.YtnjbacdgecoedaaDoor.ApG Go.Proofs.YtnjbacdgecoedaaDoor.St Go.Proofs.YtnjbacdgecoedaaDoor.BiW Go.Proofs.YtnjbacdgecoedaaDoor.CrB Go.Proofs.YtnjbacdgecoedaaDoor.TlS Go.Proofs.YtnjbacdgecoedaaDoor.TbM Go.Proofs.YtnjbacdgecoedaaDoor.TbO Go.Proofs.YtnjbacdgecoedaaDoor.TbP Go.Proofs.YtnjbacdgecoedaaDoor.TbR Go.Proofs.YtnjbacdgecoedaaDoor.TbS Go.Proofs.YtnjbacdgecoedaaDoor.TbT Go.Proofs.YtnjbacdgecoedaaDoor.TbU Go.Proofs.YtnjbacdgecoedaaDoor.RtM Go.Proofs.YtnjbacdgecoedaaDoor.RtN Go.Proofs.YtnjbacdgecoedaaDoor.RtO Go.Proofs.YtnjbacdgecoedaaDoor.RtP Go.Proofs.YtnjbacdgecoedaaDoor.RtQ Go.Proofs.YtnjbacdgecoedaaDoor.LaA Go.Proofs.YtnjbacdgecoedaaDoor.LaB Go.Proofs.YtnjbacdgecoedaaDoor.LaC

set_option maxRecDepth 100000
theorem outF_in (S : Tb) (hok : Ok S) : ∀ (f p : Nat), p ≤ 191 * S.R → ∀ x ∈ outF S f p, x.1 + x.2 ≤ 191 * S.R
  | 0, p, _, x, h => by cases h
  | f + 1, p, hp, x, h => by
    rw [outF] at h
    have hd := dN_in S p hp
    split at h
    · rcases List.mem_cons.1 h with rfl | h
      · exact hd
      · exact outF_in S hok f _ hd x h
    · split at h
      · rename_i q hq
        have := hok.lt q (nxt_mem hq)
        exact outF_in S hok f q (by omega) x h
      · cases h
theorem outAt_in {S : Tb} (hok : Ok S) : ∀ x ∈ outAt S 0, x.1 + x.2 ≤ 191 * S.R := outF_in S hok _ 0 (by omega)
theorem outF_len (S : Tb) (hok : Ok S) : ∀ (f p : Nat), p ≤ 191 * S.R → p + (outF S f p).length ≤ 191 * S.R
  | 0, p, hp => by simp [outF]; exact hp
  | f + 1, p, hp => by
    rw [outF]
    have hd := dN_in S p hp
    split
    · have := outF_len S hok f _ hd
      simp; omega
    · split
      · rename_i q hq
        have h1 := hok.lt q (nxt_mem hq)
        have h2 := nxt_gt hok.up hq
        have := outF_len S hok f q (by omega)
        omega
      · simpa using hp
/-- a row of ints, at each place -/
theorem ints_at {w : World} {B n : Nat} {a : Option Addr} {c : Nat} {L : List Nat} (h : w.ownsRow B 3 1 (.slice a n c) n (ints L)) {i z : Nat} (hi : L[i]? = some z) : ∃ g, a = some ⟨g, 0, none⟩ ∧ g < w.heap.size ∧ w.cell? ⟨g, i, none⟩ = some (.int .i64 (z : Int)) := by
  have hil := (List.getElem?_eq_some_iff.1 hi).1
  have hl : L.length = n := by have := h.1; simp [ints] at this; exact this
  rcases h.2 with ⟨_, h0⟩ | ⟨g, cap, cur, e, _⟩
  · omega
  · simp only [Value.slice.injEq, true_and] at e
    obtain ⟨rfl, rfl⟩ := e
    refine ⟨g, rfl, (h.lt g rfl).2, ?_⟩
    rw [h.cellAt i (by omega)]
    simp [ints, hi]
set_option maxHeartbeats 3200000 in
theorem lout_any (w : World) (B gt gx : Nat) (S : Tb) (h : Both w B S gt gx) (hok : Ok S) :
    Calls Tryd.prog 12 #[.pointer (some ⟨gt, 0, none⟩), .pointer (some ⟨gx, 0, none⟩)] w fun e w' => e = .returned (.bool true) ∧ Below w.heap.size w w' := by
  obtain ⟨gr, v, g1, g2, g3, hT, hX, hD⟩ := h
  have k1 := out_any w B gt gr v S hT hok
  have HX := Lib.hid hX
  have HOK := Lib.hid hok
  have HA := Lib.hid (outAt_in hok)
  have hAl : (outAt S 0).length ≤ 195584 := by
    have := outF_len S hok (191 * S.R + 1 - 0) 0 (by omega)
    unfold outAt
    have := hok.R
    omega
  obtain ⟨A, hA⟩ : ∃ A, outAt S 0 = A := ⟨_, rfl⟩
  have k2 := fun V (hb : Below w.heap.size w V) => rout_any V B gx g1 g2 g3 S (HX.out.below hb) HOK.out
  rw [hA] at k1 k2 HA hAl
  obtain ⟨n, hn⟩ : ∃ n, A.length = n := ⟨_, rfl⟩
  rw [hn] at k1 k2 hAl
  have HN := Lib.hid hn
  clear hT hX hD hok hA hn
  go_enter Tryd.func12, Tryd.ntmps12
  go_wp2_with fail
  (with_reducible refine (k1).mono ?_); rintro e1 W1 ⟨hb1, v0, rfl, ho0⟩
  have kk := k2 W1 hb1
  clear k1 k2
  obtain ⟨a0, c0, rfl⟩ := own_form ho0
  go_wp2_with fail
  (with_reducible refine (kk).mono ?_); rintro e2 W2 ⟨hb2, v1, v2, rfl, ho1, ho2⟩
  obtain ⟨a1, c1, rfl⟩ := own_form ho1
  obtain ⟨a2, c2, rfl⟩ := own_form ho2
  have hb3 := hb1.trans (hb2.mono hb1.size)
  have hs0 := own_seq (en := enPl S) (sz := 2) (fun _ => rfl) (own_below ho0 hb2) HN.out
  have HX2 := Lib.hid (HX.out.below hb3)
  have HO1 := Lib.hid ho1
  have HO2 := Lib.hid ho2
  have HS0 := Lib.hid hs0
  clear kk ho0 ho1 ho2 hb1 hb2 hs0
  go_wp2_with fail
  go_loopw [8] (fun i wi => ∃ k : Nat, k ≤ n ∧ i = .int .i64 k ∧ Below W2.heap.size W2 wi) (fun i _ => n - (intOf i).toNat)
  case atStart => exact ⟨0, by omega, rfl, Below.refl _ _⟩
  case round =>
    obtain ⟨k, hk, rfl, hb⟩ := hrel
    by_cases hkn : k < n
    · have u1 : decide (k < n) = true := decide_eq_true hkn
      obtain ⟨x, hx⟩ : ∃ x, A[k]? = some x := ⟨_, List.getElem?_eq_getElem (by rw [HN.out]; exact hkn)⟩
      obtain ⟨b0, o0, e0, l0, hc0⟩ := (HS0.out.below (Nat.le_refl _) hb) k x hx
      obtain ⟨b1, e1, l1, hc1⟩ := ints_at (own_below HO1.out hb) (show (fsts A)[k]? = some x.1 by unfold fsts; rw [List.getElem?_map, hx]; rfl)
      obtain ⟨b2, e2, l2, hc2⟩ := ints_at (own_below HO2.out hb) (show (snds A)[k]? = some x.2 by unfold snds; rw [List.getElem?_map, hx]; rfl)
      have hin := HA.out x (List.mem_of_getElem? hx)
      subst e0 e1 e2
      obtain ⟨p, m⟩ := x
      dsimp only at hin hc1 hc2
      have y0 := hc0 0 _ rfl
      have y1 := hc0 1 _ rfl
      rw [off_eq] at y0 y1
      rw [Nat.add_zero] at y0
      have f0 := fun q => cell_ext l0 y0 q
      have f1 := fun q => cell_ext l0 y1 q
      have f2 := fun q => cell_ext l1 hc1 q
      have f3 := fun q => cell_ext l2 hc2 q
      have HXr := HX2.out.below hb
      have f4 := fun q => Blk.cell (blk_ext HXr.box q) 1 (v := .slice (some ⟨g1, 0, none⟩) (255 * S.R) (255 * S.R)) rfl
      have hcv := fun q => conv_b (HXr.below (below_ext _ q)) p m (255 * S.R - p) (by omega)
      obtain ⟨s, hs⟩ : ∃ s, str (bytesL S p m) = s := ⟨_, rfl⟩
      dsimp only at f1
      rw [hs] at f1 hcv
      obtain ⟨D, hD⟩ : ∃ D, 255 * S.R = D := ⟨_, rfl⟩
      have hR9 := HOK.out.R
      have hR0 := HOK.out.R0
      have k0 : (0 : Int) ≤ (k : Int) := Int.natCast_nonneg _
      have k1 : (k : Int) < (n : Int) := by omega
      have q0 : (0 : Int) ≤ (p : Int) := Int.natCast_nonneg _
      have q1 : (0 : Int) ≤ (m : Int) := Int.natCast_nonneg _
      have q2 : (p : Int) + (m : Int) ≤ 300000 := by omega
      have q3 : (p : Int) + (m : Int) ≤ (D : Int) := by omega
      have q4 : (p : Int) < (D : Int) := by omega
      have q5 : ¬ (D = p) := by omega
      have q6 : (p : Int) ≤ (D : Int) := by omega
      rw [hD] at f4 hcv
      have t3 : (s.toList == s.toList) = true := beq_self_eq_true _
      clear hc0 hc1 hc2 y0 y1 hs hx hin hD hR9 hR0 HXr
      go_wp2_with fail
      refine Go.Proofs.YtnjbacdgecoedaaDoor.Q.region_ext (by kernel_rfl) (by kernel_rfl) ?_
      repeat (go_big_quiet_step (fail))
      refine wpQuiet_nil ?_
      rintro w9 ⟨pq, rfl⟩
      have hb8 := hb.trans ((below_ext wr pq).mono hb.size)
      clear f0 f1 f2 f3 f4 hcv hb
      go_wp2_with fail
      go_roundw
      case rel => exact ⟨k + 1, by omega, by go_num, hb8⟩
      case measure => simp [intOf]; omega
    · obtain rfl : k = n := by omega
      have u1 : decide (k < k) = false := by simp
      have hb7 := hb3.trans (hb.mono hb3.size)
      go_wp2_with fail
      go_ret
      exact ⟨rfl, hb7⟩
end Go.Proofs.YtnjbacdgecoedaaDoor.LaD
