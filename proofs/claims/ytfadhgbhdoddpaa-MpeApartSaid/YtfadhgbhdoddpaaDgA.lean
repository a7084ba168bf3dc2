/- datagram.Sum of one string. -/
import Derived.Test.YtfadhgbhdoddpaaDgP
import Derived.Test.YtfadhgbhdoddpaaFl
import Derived.Test.YtfadhgbhdoddpaaScp
import Derived.WalkMore
import Derived.WalkLawsBesides
namespace Go.Proofs.Ytfadhgbhdoddpaa.DgA
open Go Go.RowKit Go.Proofs.Ytfadhgbhdoddpaa.Q Go.Proofs.Ytfadhgbhdoddpaa.Mem Go.Proofs.Ytfadhgbhdoddpaa.Rg Go.Proofs.Ytfadhgbhdoddpaa.St Go.Proofs.Ytfadhgbhdoddpaa.BiH Go.Proofs.Ytfadhgbhdoddpaa.DgP Go.Proofs.Ytfadhgbhdoddpaa.Fl Go.Proofs.Ytfadhgbhdoddpaa.Scp

set_option maxRecDepth 100000
theorem join_one (g o c : Nat) (s : ByteArray) (w : World) (h : w.cell? ⟨g, o, none⟩ = some (.string s)) : Calls Try.prog 65 #[.slice (some ⟨g, o, none⟩) 1 c, .string nob] w fun e w' => e = .returned (.string s) ∧ w = w' := by
  go_enter Try.func65, Try.ntmps65
  go_wp2_with fail
  go_ret
  exact ⟨rfl, rfl⟩
def tm (a : Act) (k : Nat) : Value := a.tmps.getD k undef
def num (v : Value) : Nat := match v with | .int _ i => i.toNat | _ => 0
def frA (g o c : Nat) (s : ByteArray) (v4 v5 v7 : Value) (u : Nat → Value) : Act := { tmps := #[.slice (some ⟨g, o, none⟩) 1 c, u 1, .int .i64 0, .string s, v4, v5, u 6, v7, u 8, u 9, u 10, u 11, u 12, u 13, u 14, u 15, u 16, u 17, u 18, u 19, u 20, u 21, u 22, u 23, u 24, u 25, u 26, u 27, u 28, u 29, u 30, u 31, u 32, u 33, u 34, u 35, u 36, u 37, u 38, u 39, u 40, u 41, u 42, u 43, u 44, u 45, u 46, u 47], defers := [] }
def J0 (g o c : Nat) (s : ByteArray) (w : World) (a : Act) (W : World) : Prop := ∃ (i : Nat) (u : Nat → Value), a = frA g o c s (.complex .f64 (fl (dh s i)) (fl (dl s i))) (.int .i64 i) (u 7) u ∧ i ≤ s.size ∧ w = W
def J1 (g o c : Nat) (s : ByteArray) (w : World) (a : Act) (W : World) : Prop := ∃ (n : Nat) (u : Nat → Value), a = frA g o c s (u 4) (u 5) (.int .i64 n) u ∧ r15 n = r15 (256 * dh s s.size + dl s s.size) ∧ n ≤ 1152921504606846976 ∧ w = W
theorem j0_intro {g o c : Nat} {s : ByteArray} {w W : World} {a : Act} {i : Nat} (h : a = frA g o c s (.complex .f64 (fl (dh s i)) (fl (dl s i))) (.int .i64 i) (tm a 7) (tm a)) (hi : i ≤ s.size) (hw : w = W) : J0 g o c s w a W := ⟨i, tm a, h, hi, hw⟩
theorem j1_intro {g o c : Nat} {s : ByteArray} {w W : World} {a : Act} {n : Nat} (h : a = frA g o c s (tm a 4) (tm a 5) (.int .i64 n) (tm a)) (h1 : r15 n = r15 (256 * dh s s.size + dl s s.size)) (h2 : n ≤ 1152921504606846976) (hw : w = W) : J1 g o c s w a W := ⟨n, tm a, h, h1, h2, hw⟩
theorem and_low (n : Nat) (h : n ≤ 1152921504606846976) : bits .and .i64 (n : Int) 65535 = (n : Int) % 65536 := by
  have h := bits_mask .i64 63 (by decide) (fun n h0 h1 => by rw [IntKind.wrap_i64]; omega) 16 (by decide) (n : Int) (by omega) (by omega)
  have e : ((2 : Int) ^ 16 - 1) = 65535 := by decide
  have e2 : ((2 : Int) ^ 16) = 65536 := by decide
  rw [e, e2] at h
  exact h
set_option maxHeartbeats 800000 in
theorem sum_one (g o c : Nat) (s : ByteArray) (w : World) (h : w.cell? ⟨g, o, none⟩ = some (.string s)) (hs : s.size ≤ 1099511627776) : Calls Try.prog 47 #[.slice (some ⟨g, o, none⟩) 1 c] w fun e w' => e = .returned (.int .i64 (dsum s : Int)) ∧ w = w' := by
  have kj := join_one g o c s w h
  obtain ⟨R, hR⟩ : ∃ R : Ending → World → Prop, R = (fun e w' => e = .returned (.int .i64 (dsum s : Int)) ∧ w = w') := ⟨_, rfl⟩
  rw [← hR]
  have HRR := Lib.hid hR
  clear hR
  go_enter Try.func47, Try.ntmps47
  go_wp2_with fail
  refine wp_scope_two 0 1 (J0 g o c s w) (J1 g o c s w) (fun a _ => s.size - num (tm a 5)) (fun a _ => num (tm a 7)) rfl rfl ?_ ?_ ?_
  · rintro a W ⟨n, u, rfl, hr, hn, rfl⟩
    unfold frA
    clear h kj
    by_cases hb : 65535 < n
    · have t1 : decide (65535 < (n : Int)) = true := by simp; omega
      have ha := and_low n hn
      have hn2 : (n : Int) ≤ 1152921504606846976 := by omega
      have HF := Lib.hid (r15_fold hb)
      have HR := Lib.hid hr
      have HC := Lib.hid (show (n : Int) / 65536 + (n : Int) % 65536 = ((n / 65536 + n % 65536 : Nat) : Int) by omega)
      clear hb hr
      go_wp2_with fail
      rw [HC.out]
      go_step3
      exact Or.inr ⟨rfl, j1_intro (n := n / 65536 + n % 65536) (by kernel_rfl) (HF.out.1.trans HR.out) (by omega) rfl, HF.out.2⟩
    · have t1 : decide (65535 < (n : Int)) = false := by simp; omega
      have hd := r15_small (n := n) (by omega)
      have HD := Lib.hid (show ((65535 - n : Nat) : Int) = 65535 - (n : Int) by omega)
      have HE := Lib.hid (show dsum s = 65535 - n by unfold dsum; rw [← hr, hd])
      go_wp2_with fail
      rw [HRR.out, HE.out, HD.out]
      exact ⟨rfl, rfl⟩
  · rintro a W ⟨i, u, rfl, hi, rfl⟩ b1
    unfold frA
    clear h kj
    by_cases hlt : i < s.size
    · have t1 : decide ((i : Int) < (s.size : Int)) = true := by simp; omega
      have hix := fun V => idx_at s i hlt V
      rw [at0_at] at hix
      obtain ⟨d1, d2⟩ := d_le s i
      have hx := at0_lt s i
      have e1 : dh s (i + 1) = dh s i + if i % 2 = 0 then at0 s i else 0 := rfl
      have e2 : dl s (i + 1) = dl s i + if i % 2 = 0 then 0 else at0 s i := rfl
      obtain ⟨x, hxe⟩ : ∃ x, at0 s i = x := ⟨_, rfl⟩
      rw [hxe] at hix hx e1 e2
      have hof := ofInt_fl x
      by_cases hp : i % 2 = 0
      · rw [if_pos hp] at e1 e2
        have t2 : ((i : Int) % 2 == 0) = true := by simp; omega
        have hcs : ∀ V, (binOp .add 112 (.complex .f64 (fl (dh s i)) (fl (dl s i))) (.complex .f64 (fl x) 0)).run Try.prog V = .ok (.complex .f64 (fl (dh s (i + 1))) (fl (dl s (i + 1)))) V := fun V => by
          have := run_csum (P := Try.prog) V 112 (dh s i) (dl s i) x 0 (by omega) (by omega)
          rw [fl_zero] at this
          rw [e1, e2]
          exact this
        clear e1 e2 hp hxe d1 d2
        go_wp2_with fail
        go_step3
        exact Or.inl ⟨rfl, j0_intro (i := i + 1) (by kernel_rfl) (by omega) rfl, by show s.size - (i + 1) < s.size - i; omega⟩
      · rw [if_neg hp] at e1 e2
        have t2 : ((i : Int) % 2 == 0) = false := by simp; omega
        have hcs : ∀ V, (binOp .add 112 (.complex .f64 (fl (dh s i)) (fl (dl s i))) (.complex .f64 0 (fl x))).run Try.prog V = .ok (.complex .f64 (fl (dh s (i + 1))) (fl (dl s (i + 1)))) V := fun V => by
          have := run_csum (P := Try.prog) V 112 (dh s i) (dl s i) 0 x (by omega) (by omega)
          rw [fl_zero] at this
          rw [e1, e2]
          exact this
        clear e1 e2 hp hxe d1 d2
        go_wp2_with fail
        go_step3
        exact Or.inl ⟨rfl, j0_intro (i := i + 1) (by kernel_rfl) (by omega) rfl, by show s.size - (i + 1) < s.size - i; omega⟩
    · obtain rfl : i = s.size := by omega
      have t1 : decide ((s.size : Int) < (s.size : Int)) = false := by simp
      obtain ⟨d1, d2⟩ := d_le s s.size
      have c1 : ∀ V, (convert 113 3 (.float .f64 (fl (dh s s.size)))).run Try.prog V = .ok (.int .i64 (dh s s.size : Int)) V := fun V => run_cint V _ _ _ (by kernel_rfl) Try.underlying3 (by omega)
      have c2 : ∀ V, (convert 113 3 (.float .f64 (fl (dl s s.size)))).run Try.prog V = .ok (.int .i64 (dl s s.size : Int)) V := fun V => run_cint V _ _ _ (by kernel_rfl) Try.underlying3 (by omega)
      have HC := Lib.hid (show (dh s s.size : Int) * 256 + (dl s s.size : Int) = ((256 * dh s s.size + dl s s.size : Nat) : Int) by omega)
      go_wp2_with fail
      rw [HC.out]
      go_step3
      rename_i hK
      refine hK _ _ ?_
      exact b1 _ _ (j1_intro (n := 256 * dh s s.size + dl s s.size) (by kernel_rfl) rfl (by omega) rfl)
  · intro b0 b1
    go_wp2_with fail
    (with_reducible refine (kj).mono ?_); rintro e1 W1 ⟨rfl, rfl⟩
    go_wp2_with fail
    go_step3
    rename_i hK
    refine hK _ _ ?_
    exact b0 _ _ (j0_intro (i := 0) (by kernel_rfl) (by omega) rfl)
end Go.Proofs.Ytfadhgbhdoddpaa.DgA
