/- The document's table: Parity, Pad, Lost. -/
import Derived.Test.YtnjbacdgecoedaaDoorRtN
namespace Go.Proofs.YtnjbacdgecoedaaDoor.RtO
open Go Go.RowKit Go.Proofs.YtnjbacdgecoedaaDoor.Q Go.Proofs.YtnjbacdgecoedaaDoor.Mem Go.Proofs.YtnjbacdgecoedaaDoor.Rg Go.Proofs.YtnjbacdgecoedaaDoor.Ap Go.Proofs.YtnjbacdgecoedaaDoor.ApG Go.Proofs.YtnjbacdgecoedaaDoor.St Go.Proofs.YtnjbacdgecoedaaDoor.BiW Go.Proofs.YtnjbacdgecoedaaDoor.TlS Go.Proofs.YtnjbacdgecoedaaDoor.TbM Go.Proofs.YtnjbacdgecoedaaDoor.TbN Go.Proofs.YtnjbacdgecoedaaDoor.TbO Go.Proofs.YtnjbacdgecoedaaDoor.TbP Go.Proofs.YtnjbacdgecoedaaDoor.TbQ Go.Proofs.YtnjbacdgecoedaaDoor.TbR Go.Proofs.YtnjbacdgecoedaaDoor.RtM Go.Proofs.YtnjbacdgecoedaaDoor.RtN

set_option maxRecDepth 100000
theorem rparity_any (w : World) (B gx g1 g2 g3 : Nat) (S : Tb) (n : Int) (s : ByteArray) (h : RtIn w B gx g1 g2 g3 S) (hok : Ok S) (hn : parE S.R n s = 0) :
    Calls Tryd.prog 23 #[.pointer (some ⟨gx, 0, none⟩), .int .i64 n, .string s] w fun e w' => e = .returned (.tuple #[]) ∧ RtIn w' B gx g1 g2 g3 (parS S n s) ∧ Kept (feet gx g1 g2 g3) w w' := by
  have hnn : 0 ≤ n ∧ n < 64 ∧ s.size = S.R := by
    unfold parE at hn
    split at hn
    · cases hn
    · split at hn
      · cases hn
      · omega
  obtain ⟨m, rfl⟩ := Int.eq_ofNat_of_zero_le hnn.1
  have c0 := Blk.cell h.box 0 (v := .int .i64 (S.R : Int)) rfl
  have hR := hok.R
  have hmul : (191 + m) * S.R + s.size ≤ 255 * S.R := by
    rw [hnn.2.2, show (191 + m) * S.R + S.R = (191 + m + 1) * S.R by rw [Nat.add_mul (191 + m) 1]; omega]
    exact Nat.mul_le_mul_right _ (by omega)
  have kl := lay_any w B gx g1 g2 g3 ((191 + m) * S.R) S s h hR hmul
  have HS := Lib.hid (show parS S m s = laid S ((191 + m) * S.R) s s.size from by unfold parS; rw [hn, if_neg (by simp)]; rfl)
  have hmb : (191 + m) * S.R ≤ 255 * 1024 := Nat.mul_le_mul (by omega) hR
  rw [show (((191 + m) * S.R : Nat) : Int) = (191 + (m : Int)) * (S.R : Int) by rw [Int.natCast_mul]; congr 1] at kl
  have jb : (191 + (m : Int)) * (S.R : Int) ≤ 300000 := by
    rw [show (191 + (m : Int)) * (S.R : Int) = (((191 + m) * S.R : Nat) : Int) by rw [Int.natCast_mul]; congr 1]; omega
  have j0 : 0 ≤ (191 + (m : Int)) * (S.R : Int) := by
    rw [show (191 + (m : Int)) * (S.R : Int) = (((191 + m) * S.R : Nat) : Int) by rw [Int.natCast_mul]; congr 1]; omega
  have j1 : (m : Int) < 64 := by omega
  have j2 : (0 : Int) ≤ (m : Int) := Int.natCast_nonneg _
  have HW : wrap64 ((191 + (m : Int)) * (S.R : Int)) = (191 + (m : Int)) * (S.R : Int) := by unfold wrap64; omega
  clear hn hmul hmb hok
  go_enter Tryd.func23, Tryd.ntmps23
  go_wp2_with fail
  (with_reducible refine (kl).mono ?_); rintro e1 W1 ⟨rfl, ht1, hk1⟩
  go_wp2_with fail
  go_end0
  exact ⟨rfl, by rw [HS.out]; exact ht1, hk1⟩
/-- places from a to i are known -/
def padJ (S : Tb) (a i : Nat) : Tb := { S with is := fun p => if a ≤ p ∧ p < i then true else S.is p }
theorem padJ_zero (S : Tb) (a : Nat) : padJ S a a = S := by
  unfold padJ
  have h : ∀ p, ¬ (a ≤ p ∧ p < a) := fun p => by omega
  simp only [h, if_false]
theorem padJ_mark (S : Tb) (a i : Nat) (h : a ≤ i) : (padJ S a i).mark i = padJ S a (i + 1) := by
  unfold padJ Tb.mark
  dsimp only
  congr 1
  funext p
  by_cases h1 : p = i
  · subst h1; rw [if_pos rfl, if_pos (by omega)]
  · rw [if_neg h1]
    by_cases h2 : a ≤ p ∧ p < i
    · rw [if_pos h2, if_pos (by omega)]
    · rw [if_neg h2, if_neg (by omega)]
theorem rpad_any (w : World) (B gx g1 g2 g3 : Nat) (S : Tb) (n : Int) (h : RtIn w B gx g1 g2 g3 S) (hok : Ok S) (hn : padE n = 0) :
    Calls Tryd.prog 24 #[.pointer (some ⟨gx, 0, none⟩), .int .i64 n] w fun e w' => e = .returned (.tuple #[]) ∧ RtIn w' B gx g1 g2 g3 (padS S n) ∧ Kept (feet gx g1 g2 g3) w w' := by
  have hnn : 0 ≤ n ∧ n ≤ 191 := by
    unfold padE at hn
    split at hn
    · cases hn
    · omega
  obtain ⟨m, rfl⟩ := Int.eq_ofNat_of_zero_le hnn.1
  have c0 := Blk.cell h.box 0 (v := .int .i64 (S.R : Int)) rfl
  have hR := hok.R
  have HS := Lib.hid (show padS S m = padJ S ((191 - m) * S.R) (191 * S.R) from by unfold padS; rw [hn, if_neg (by simp)]; rfl)
  have hle : (191 - m) * S.R ≤ 191 * S.R := Nat.mul_le_mul_right _ (by omega)
  have hc : (191 - (m : Int)) * (S.R : Int) = (((191 - m) * S.R : Nat) : Int) := by rw [Int.natCast_mul]; congr 1; omega
  obtain ⟨a, ha⟩ : ∃ a, (191 - m) * S.R = a := ⟨_, rfl⟩
  rw [ha] at hc hle HS
  obtain ⟨R, hRR⟩ : ∃ R, S.R = R := ⟨_, rfl⟩
  rw [hRR] at hc hle HS c0 hR
  have HR := Lib.hid hRR
  have j0 : (0 : Int) ≤ (191 - (m : Int)) * (R : Int) := by rw [hc]; omega
  have j1 : (191 - (m : Int)) * (R : Int) ≤ 300000 := by rw [hc]; omega
  have j2 : (m : Int) ≤ 191 := hnn.2
  have j3 : (0 : Int) ≤ (m : Int) := Int.natCast_nonneg _
  have j4 : (0 : Int) ≤ (R : Int) := Int.natCast_nonneg _
  have j5 : (R : Int) ≤ 1024 := by omega
  have HC := Lib.hid hc
  clear hn ha hRR hok hc hnn
  go_enter Tryd.func24, Tryd.ntmps24
  go_wp2_with fail
  rw [HC.out]
  go_loopw [4] (fun i wr => ∃ k : Nat, a ≤ k ∧ k ≤ 191 * R ∧ i = .int .i64 k ∧ Hid (RtIn wr B gx g1 g2 g3 (padJ S a k)) ∧ Hid (Kept (feet gx g1 g2 g3) w wr)) (fun i _ => 191 * R - (intOf i).toNat)
  case atStart => exact ⟨a, by omega, hle, rfl, Lib.hid (by rw [padJ_zero]; exact h), Lib.hid (Kept.refl _ _)⟩
  case round =>
    obtain ⟨k, hak, hk, rfl, HT, HK⟩ := hrel
    have q1 : (0 : Int) ≤ (k : Int) := Int.natCast_nonneg _
    have d0 := Blk.cell HT.out.box 0 (v := .int .i64 (S.R : Int)) rfl
    have d1 := Blk.cell HT.out.box 2 (v := .slice (some ⟨g2, 0, none⟩) (255 * S.R) (255 * S.R)) rfl
    rw [HR.out] at d0 d1
    by_cases hkn : k < 191 * R
    · have u0 : decide ((k : Int) < 191 * (R : Int)) = true := decide_eq_true (by omega)
      have q2 : (k : Int) < ((255 * R : Nat) : Int) := by omega
      have e1 := HT.out.is.cell k (by show k < 255 * S.R; rw [HR.out]; omega)
      have e2 := HT.out.is.frozen k
      have HT2 := Lib.hid (rt_is HT.out k)
      rw [padJ_mark S a k hak] at HT2
      have HK2 := Lib.hid (kept2 (p := k) (u := .bool true) HK.out)
      have q3 : (k : Int) ≤ 300000 := by omega
      clear HT HK
      go_wp2_with fail
      go_roundw
      case rel => exact ⟨k + 1, by omega, by omega, by go_num, HT2, HK2⟩
      case measure => simp [intOf]; omega
    · obtain rfl : k = 191 * R := by omega
      have u0 : decide (((191 * R : Nat) : Int) < 191 * (R : Int)) = false := decide_eq_false (by omega)
      have u1 : decide (191 * (R : Int) < 191 * (R : Int)) = false := decide_eq_false (by omega)
      go_wp2_with fail
      go_end0
      exact ⟨rfl, by rw [HS.out]; exact HT.out, HK.out⟩
theorem rlost_any (w : World) (B gx g1 g2 g3 r : Nat) (S : Tb) (h : RtIn w B gx g1 g2 g3 S) (hR : S.R ≤ 1024) (hr : r < S.R) :
    Calls Tryd.prog 13 #[.pointer (some ⟨gx, 0, none⟩), .int .i64 r] w fun e w' => e = .returned (.int .i64 ((lostL S r).length : Int)) ∧ Below w.heap.size w w' := by
  have HH := Lib.hid h
  obtain ⟨R, hRR⟩ : ∃ R, S.R = R := ⟨_, rfl⟩
  have HR := Lib.hid hRR
  rw [hRR] at hR hr
  have j0 : (0 : Int) ≤ (r : Int) := Int.natCast_nonneg _
  have j1 : (r : Int) < (R : Int) := by omega
  clear h hRR
  go_enter Tryd.func13, Tryd.ntmps13
  go_wp2_with fail
  go_loopw [5, 6] (fun nv i wr => ∃ k : Nat, k ≤ 255 ∧ i = .int .i64 k ∧ nv = .int .i64 (((lostN S r k).length : Nat) : Int) ∧ Below w.heap.size w wr) (fun _ i _ => 255 - (intOf i).toNat)
  case atStart => exact ⟨0, by omega, rfl, rfl, Below.refl _ _⟩
  case round =>
    obtain ⟨k, hk, rfl, rfl, hb⟩ := hrel
    have HS := Lib.hid (lostN_succ S r k)
    have hll := lostN_len S r k
    obtain ⟨l, hl⟩ : ∃ l, (lostN S r k).length = l := ⟨_, rfl⟩
    have HLL := Lib.hid hl
    rw [hl] at hll ⊢
    have hbs := hb.size
    clear hl
    by_cases hkn : k < 255
    · have u0 : decide ((k : Int) < 255) = true := decide_eq_true (by omega)
      have HT := HH.out.below hb
      have c0 := fun p => Blk.cell (blk_ext HT.box p) 0 (v := .int .i64 (S.R : Int)) rfl
      have c1 := fun p => Blk.cell (blk_ext HT.box p) 2 (v := .slice (some ⟨g2, 0, none⟩) (255 * S.R) (255 * S.R)) rfl
      have hpl : k * R + r < 255 * R := by
        have : (k + 1) * R ≤ 255 * R := Nat.mul_le_mul_right _ hkn
        rw [Nat.add_mul] at this; omega
      have c2 := fun p => (HT.is.ext p).cell (k * R + r) (by rw [HR.out]; exact hpl)
      rw [HR.out] at c0 c1
      have q0 : (0 : Int) ≤ (k : Int) := Int.natCast_nonneg _
      have e1 : (k : Int) * (R : Int) = ((k * R : Nat) : Int) := (Int.natCast_mul k R).symm
      have q1 : (0 : Int) ≤ (k : Int) * (R : Int) := by rw [e1]; omega
      have q2 : (k : Int) * (R : Int) ≤ 300000 := by rw [e1]; omega
      have q3 : (k : Int) * (R : Int) + (r : Int) < ((255 * R : Nat) : Int) := by rw [e1]; omega
      have q4 : ((k : Int) * (R : Int) + (r : Int)).toNat = k * R + r := by rw [e1]; omega
      obtain ⟨b, hbb⟩ : ∃ b, S.is (k * R + r) = b := ⟨_, rfl⟩
      have HB := Lib.hid hbb
      rw [hbb] at c2
      clear e1 hpl hbb HT
      cases b with
      | true =>
        go_wp2_with fail
        refine Go.Proofs.YtnjbacdgecoedaaDoor.Q.region_ext (by kernel_rfl) (by kernel_rfl) ?_
        repeat (go_big_quiet_step (fail))
        refine wpQuiet_nil ?_
        rintro w9 ⟨pq, rfl⟩
        have hb2 := hb.trans ((below_ext wr pq).mono hbs)
        go_wp2_with fail
        go_roundw
        case rel => exact ⟨k + 1, by omega, by go_num, by rw [HS.out, HR.out, HB.out, if_pos rfl, HLL.out], hb2⟩
        case measure => simp [intOf]; omega
      | false =>
        go_wp2_with fail
        refine Go.Proofs.YtnjbacdgecoedaaDoor.Q.region_ext (by kernel_rfl) (by kernel_rfl) ?_
        repeat (go_big_quiet_step (fail))
        refine wpQuiet_nil ?_
        rintro w9 ⟨pq, rfl⟩
        have hb2 := hb.trans ((below_ext wr pq).mono hbs)
        go_wp2_with fail
        go_roundw
        case rel => exact ⟨k + 1, by omega, by go_num, by rw [HS.out, HR.out, HB.out, if_neg (by decide), List.length_append, HLL.out]; rfl, hb2⟩
        case measure => simp [intOf]; omega
    · obtain rfl : k = 255 := by omega
      have u0 : decide (((255 : Nat) : Int) < 255) = false := by decide
      go_wp2_with fail
      go_ret
      exact ⟨by unfold lostL; rw [HLL.out]; rfl, hb⟩
end Go.Proofs.YtnjbacdgecoedaaDoor.RtO
