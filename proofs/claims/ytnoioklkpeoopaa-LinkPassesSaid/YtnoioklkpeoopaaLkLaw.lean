/- The walk over LinkPasses. -/
import Derived.Test.YtnoioklkpeoopaaLkAw
namespace Go.Proofs.Ytnoioklkpeoopaa.LkLaw
open Go.RowKit Go.Proofs.Ytnoioklkpeoopaa.Q Go.Proofs.Ytnoioklkpeoopaa.Mem Go.Proofs.Ytnoioklkpeoopaa.PkCut Go.Proofs.Ytnoioklkpeoopaa.LkHarm Go.Proofs.Ytnoioklkpeoopaa.LkPass Go.Proofs.Ytnoioklkpeoopaa.LkRef Go.Proofs.Ytnoioklkpeoopaa.LkRef2 Go.Proofs.Ytnoioklkpeoopaa.LkRef3 Go.Proofs.Ytnoioklkpeoopaa.LkAw

theorem law_long (s : ByteArray) (la : Option Addr) (lc : Nat) (L : List H) (w : World) (h : 5000 < s.size ∨ 30 < L.length) :
        Calls Try.prog 3 #[.string s, .slice la L.length lc] w fun e w' => e = .returned (.bool true) ∧ Below w.heap.size w w' := by
  by_cases hs : 5000 < s.size
  · have t0 : decide (5000 < (s.size : Int)) = true := by simp; omega
    clear h hs
    go_enter Try.func3, Try.ntmps3
    go_wp2_with fail
    (with_reducible refine (awake_any _).mono ?_); rintro e w1 ⟨rfl, hb⟩
    go_wp2
    go_ret
    exact ⟨rfl, hb⟩
  · have t0 : decide (5000 < (s.size : Int)) = false := by simp; omega
    have t1 : decide (30 < (L.length : Int)) = true := by simp; omega
    clear h hs
    go_enter Try.func3, Try.ntmps3
    go_wp2_with fail
    (with_reducible refine (awake_any _).mono ?_); rintro e w1 ⟨rfl, hb⟩
    go_wp2
    go_ret
    exact ⟨rfl, hb⟩

theorem law_form (s : ByteArray) (la : Option Addr) (lc : Nat) (L : List H) (w : World) (hs : s.size ≤ 5000) (hL : L.length ≤ 30) (hH : Harms w la L) (h : s.size % 188 ≠ 0) :
        Calls Try.prog 3 #[.string s, .slice la L.length lc] w fun e w' => e = .returned (.bool true) ∧ Below w.heap.size w w' := by
  have t0 : decide (5000 < (s.size : Int)) = false := by simp; omega
  have t1 : decide (30 < (L.length : Int)) = false := by simp; omega
  have k1 := fun w => pass_form s la L.length lc w (by omega) h
  have k2 := fun w h => lharms_any la lc L w (by omega) h
  have k3 := fun a c w => rpass_form s a L.length c w (by omega) h
  have HH := Lib.hid hH
  clear hH h hs
  go_enter Try.func3, Try.ntmps3
  go_wp2_with fail
  (with_reducible refine (k1 _).mono ?_); rintro e w1 ⟨rfl, hb1⟩
  go_wp2_with fail
  (with_reducible refine (k2 _ (HH.out.below (Nat.le_refl _) hb1)).mono ?_); rintro e w2 ⟨a2, c2, rfl, _, hb2⟩
  have hb3 := hb1.trans (hb2.mono hb1.size)
  clear hb1 hb2
  go_wp2_with fail
  (with_reducible refine (k3 _ _ _).mono ?_); rintro e w3 ⟨rfl, rfl⟩
  clear k1 k2 k3
  go_wp2_with fail
  (with_reducible refine (awake_any _).mono ?_); rintro e w4 ⟨rfl, hb4⟩
  go_wp2
  go_ret
  exact ⟨rfl, hb3.trans (hb4.mono hb3.size)⟩

theorem law_bad (s : ByteArray) (la : Option Addr) (lc : Nat) (L : List H) (w : World) (hs : s.size ≤ 5000) (hL : L.length ≤ 30) (hH : Harms w la L) (h : s.size % 188 = 0) (hp : LkPass.pass L (cutP s) = none) :
        Calls Try.prog 3 #[.string s, .slice la L.length lc] w fun e w' => e = .returned (.bool true) ∧ Below w.heap.size w w' := by
  have t0 : decide (5000 < (s.size : Int)) = false := by simp; omega
  have t1 : decide (30 < (L.length : Int)) = false := by simp; omega
  have k1 := fun w hH => pass_any s la lc L w (by omega) (by omega) h hH
  have k2 := fun w h => lharms_any la lc L w (by omega) h
  have k3 := fun a c w hH => rpass_any s a c L w (by omega) (by omega) h hH
  rw [hp] at k1 k3
  have HH := Lib.hid hH
  clear hH h hs hp
  go_enter Try.func3, Try.ntmps3
  go_wp2_with fail
  (with_reducible refine (k1 _ HH.out).mono ?_); rintro e w1 ⟨rfl, hb1⟩
  go_wp2_with fail
  (with_reducible refine (k2 _ (HH.out.below (Nat.le_refl _) hb1)).mono ?_); rintro e w2 ⟨a2, c2, rfl, hH2, hb2⟩
  have hb3 := hb1.trans (hb2.mono hb1.size)
  clear hb1 hb2
  go_wp2_with fail
  (with_reducible refine (k3 _ _ _ hH2).mono ?_); rintro e w3 ⟨rfl, hb⟩
  have hb4 := hb3.trans (hb.mono hb3.size)
  clear k1 k2 k3 hb hb3 hH2
  go_wp2_with fail
  (with_reducible refine (awake_any _).mono ?_); rintro e w4 ⟨rfl, hb5⟩
  go_wp2
  go_ret
  exact ⟨rfl, hb4.trans (hb5.mono hb4.size)⟩

theorem law_good (s : ByteArray) (la : Option Addr) (lc : Nat) (L : List H) (w : World) (hs : s.size ≤ 5000) (hL : L.length ≤ 30) (hH : Harms w la L) (h : s.size % 188 = 0) (A : List ByteArray) (hp : LkPass.pass L (cutP s) = some A) :
        Calls Try.prog 3 #[.string s, .slice la L.length lc] w fun e w' => e = .returned (.bool true) ∧ Below w.heap.size w w' := by
  have t0 : decide (5000 < (s.size : Int)) = false := by simp; omega
  have t1 : decide (30 < (L.length : Int)) = false := by simp; omega
  have k1 := fun w hH => pass_any s la lc L w (by omega) (by omega) h hH
  have k2 := fun w h => lharms_any la lc L w (by omega) h
  have k3 := fun a c w hH => rpass_any s a c L w (by omega) (by omega) h hH
  rw [hp] at k1 k3
  have hAl : A.length ≤ 1099511627776 := by rw [pass_length hp]; simp [cutP, pks]; omega
  have HH := Lib.hid hH
  clear hH h hs hp
  go_enter Try.func3, Try.ntmps3
  go_wp2_with fail
  (with_reducible refine (k1 _ HH.out).mono ?_); rintro e w1 ⟨⟨a1, c1, rfl, hown⟩, hb1⟩
  have s1 := strs_own hown
  clear hown
  go_wp2_with fail
  (with_reducible refine (k2 _ (HH.out.below (Nat.le_refl _) hb1)).mono ?_); rintro e w2 ⟨a2, c2, rfl, hH2, hb2⟩
  have s2 := s1.below (Nat.le_refl _) hb2
  have hb3 := hb1.trans (hb2.mono hb1.size)
  clear hb1 hb2 s1
  go_wp2_with fail
  (with_reducible refine (k3 _ _ _ hH2).mono ?_); rintro e w3 ⟨⟨a3, c3, rfl, s3⟩, hb⟩
  have s4 := s2.below (Nat.le_refl _) hb
  have hb4 := hb3.trans (hb.mono hb3.size)
  clear k1 k2 k3 hb hb3 hH2 s2
  have kt := texts_same a1 a3 c1 c3 A _ hAl s4 s3
  clear s3 s4
  go_wp2_with fail
  (with_reducible refine (kt).mono ?_); rintro e w4 ⟨rfl, hb5⟩
  have hb6 := hb4.trans (hb5.mono hb4.size)
  clear hb4 hb5 kt
  go_wp2_with fail
  (with_reducible refine (awake_any _).mono ?_); rintro e w5 ⟨rfl, hb7⟩
  go_wp2
  go_ret
  exact ⟨rfl, hb6.trans (hb7.mono hb6.size)⟩

theorem law_any (s : ByteArray) (la : Option Addr) (lc : Nat) (L : List H) (w : World) (hH : Harms w la L) :
        Calls Try.prog 3 #[.string s, .slice la L.length lc] w fun e w' => e = .returned (.bool true) ∧ Below w.heap.size w w' := by
  by_cases hl : 5000 < s.size ∨ 30 < L.length
  · exact law_long s la lc L w hl
  · by_cases h : s.size % 188 = 0
    · cases hp : LkPass.pass L (cutP s) with
      | none => exact law_bad s la lc L w (by omega) (by omega) hH h hp
      | some A => exact law_good s la lc L w (by omega) (by omega) hH h A hp
    · exact law_form s la lc L w (by omega) (by omega) hH h
end Go.Proofs.Ytnoioklkpeoopaa.LkLaw
