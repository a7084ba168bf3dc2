/- An Int: may, Ext. -/
import Derived.Test.YtbceakdifklocaaDtF
namespace Go.Proofs.Ytbceakdifklocaa.DuA
open Go Go.RowKit Go.Proofs.Ytbceakdifklocaa.Q Go.Proofs.Ytbceakdifklocaa.Mem Go.Proofs.Ytbceakdifklocaa.DsA Go.Proofs.Ytbceakdifklocaa.DsB Go.Proofs.Ytbceakdifklocaa.DsC Go.Proofs.Ytbceakdifklocaa.DsD Go.Proofs.Ytbceakdifklocaa.DsE Go.Proofs.Ytbceakdifklocaa.DsI Go.Proofs.Ytbceakdifklocaa.DsQ Go.Proofs.Ytbceakdifklocaa.DsR Go.Proofs.Ytbceakdifklocaa.DsY Go.Proofs.Ytbceakdifklocaa.Rg Go.Proofs.Ytbceakdifklocaa.Ap

def mayB (a p o : Int) : Bool := inB 255 [a, o] && inB 16777215 [p]
theorem may_true {a p o : Int} (h : mayB a p o = true) : (0 ≤ a ∧ a ≤ 255) ∧ (0 ≤ p ∧ p ≤ 16777215) ∧ (0 ≤ o ∧ o ≤ 255) := by
  simp [mayB, inB, in1] at h; omega
set_option maxRecDepth 100000
theorem may_any (a p o : Int) (iv ev : Value) (w : World) : Calls Try.prog 50 #[.agg #[.int .i64 a, .int .i64 p, .int .i64 o, iv, ev]] w fun e w' => e = .returned (.bool (mayB a p o)) ∧ Below w.heap.size w w' := by
  have k1 := fun V g hg => within_new 255 V [a, o] 2 g #[.int .i64 a, .int .i64 o] rfl rfl hg (by simp)
  have k2 := fun V g hg => within_new 16777215 V [p] 1 g #[.int .i64 p] rfl rfl hg (by simp)
  have HB := Lib.hid (bk1 w 82 #[.int .i64 a, .int .i64 p, .int .i64 o, iv, ev])
  unfold mayB
  cases h1 : inB 255 [a, o] with
  | false =>
    rw [h1] at k1
    clear h1
    go_enter Try.func50, Try.ntmps50
    go_wp2_with fail
    (with_reducible refine (k1 _ _ (by simp)).mono ?_); rintro e1 W1 ⟨rfl, hb1⟩
    have hE := (HB.out.below hb1).be
    go_wp2_with fail
    go_ret
    exact ⟨rfl, hE⟩
  | true =>
    rw [h1] at k1
    obtain ⟨b, hb⟩ : ∃ b, inB 16777215 [p] = b := ⟨_, rfl⟩
    rw [hb] at k2
    rw [hb]
    clear h1 hb
    go_enter Try.func50, Try.ntmps50
    go_wp2_with fail
    (with_reducible refine (k1 _ _ (by simp)).mono ?_); rintro e1 W1 ⟨rfl, hb1⟩
    have HB1 := Lib.hid (HB.out.below hb1)
    have c1 := Blk.cell (HB1.out.nth 0 rfl) 1 (v := .int .i64 p) rfl
    clear k1 HB hb1
    go_wp2_with fail
    (with_reducible refine (k2 _ _ rfl).mono ?_); rintro e1 W2 ⟨rfl, hb2⟩
    have hE := (HB1.out.below hb2).be
    clear c1 k2
    go_wp2_with fail
    go_ret
    exact ⟨by simp, hE⟩

def low8 (p : Int) : Int := bits .and .i64 (bits .xor .i64 (bits .xor .i64 (p / 65536) (p / 256)) p) 255
theorem and_255 (y : Int) : 0 ≤ bits .and .i64 y 255 ∧ bits .and .i64 y 255 ≤ 255 := by
  have h : ((BitVec.ofInt 64 y) &&& (BitVec.ofInt 64 255)).toNat ≤ 255 := by
    rw [BitVec.toNat_and]
    exact Nat.le_trans Nat.and_le_right (by decide)
  have e : bits .and .i64 y 255 = IntKind.i64.wrap (((BitVec.ofInt 64 y) &&& (BitVec.ofInt 64 255)).toNat : Int) := rfl
  rw [e, IntKind.wrap_i64]
  omega
def extN (a p o : Int) : Int := if mayB a p o then a * 256 + low8 p else 0
theorem ext_any (a p o : Int) (iv ev : Value) (w : World) (h1 : ∃ x n c, iv = .slice x n c) (h2 : ∃ x n c, ev = .slice x n c) : Calls Try.prog 35 #[.agg #[.int .i64 a, .int .i64 p, .int .i64 o, iv, ev]] w fun e w' => e = .returned (.int .i64 (extN a p o)) ∧ Below w.heap.size w w' := by
  obtain ⟨ia, in', ic, rfl⟩ := h1
  obtain ⟨ea, en', ec, rfl⟩ := h2
  have k1 := fun V => may_any a p o (.slice ia in' ic) (.slice ea en' ec) V
  have HB := Lib.hid (bk1 w 82 #[.int .i64 a, .int .i64 p, .int .i64 o, .slice ia in' ic, .slice ea en' ec])
  unfold extN
  cases h1 : mayB a p o with
  | false =>
    rw [h1] at k1
    clear h1
    go_enter Try.func35, Try.ntmps35
    go_wp2_with fail
    (with_reducible refine (k1 _).mono ?_); rintro e1 W1 ⟨rfl, hb1⟩
    have hE := (HB.out.below hb1).be
    go_wp2_with fail
    go_ret
    exact ⟨rfl, hE⟩
  | true =>
    obtain ⟨⟨a1, a2⟩, ⟨p1, p2⟩, ⟨o1, o2⟩⟩ := may_true h1
    rw [h1] at k1
    have q1 : IntKind.i64.wrap (a * 256) = a * 256 := by rw [IntKind.wrap_i64]; omega
    have q2 := or8 a (low8 p) ⟨a1, a2⟩ (and_255 _)
    unfold low8 at q2 ⊢
    clear h1
    go_enter Try.func35, Try.ntmps35
    go_wp2_with fail
    (with_reducible refine (k1 _).mono ?_); rintro e1 W1 ⟨rfl, hb1⟩
    have HB1 := Lib.hid (HB.out.below hb1)
    have c0 := Blk.cell (HB1.out.nth 0 rfl) 0 (v := .int .i64 a) rfl
    have c1 := Blk.cell (HB1.out.nth 0 rfl) 1 (v := .int .i64 p) rfl
    have hE := HB1.out.be
    clear k1 HB hb1
    go_wp2_with fail
    go_ret
    exact ⟨rfl, hE⟩
end Go.Proofs.Ytbceakdifklocaa.DuA
