/- The document's Open and Decode. -/
import Derived.Test.YtfadhgbhdoddpaaSeG
import Derived.Test.YtfadhgbhdoddpaaSeEq
namespace Go.Proofs.Ytfadhgbhdoddpaa.SeH
open Go Go.RowKit Go.Proofs.Ytfadhgbhdoddpaa.Q Go.Proofs.Ytfadhgbhdoddpaa.Mem Go.Proofs.Ytfadhgbhdoddpaa.Rg Go.Proofs.Ytfadhgbhdoddpaa.Ap Go.Proofs.Ytfadhgbhdoddpaa.St Go.Proofs.Ytfadhgbhdoddpaa.BiP Go.Proofs.Ytfadhgbhdoddpaa.BiA Go.Proofs.Ytfadhgbhdoddpaa.BiG Go.Proofs.Ytfadhgbhdoddpaa.BiH Go.Proofs.Ytfadhgbhdoddpaa.CrC Go.Proofs.Ytfadhgbhdoddpaa.CrD Go.Proofs.Ytfadhgbhdoddpaa.SeA Go.Proofs.Ytfadhgbhdoddpaa.SeC Go.Proofs.Ytfadhgbhdoddpaa.SeG Go.Proofs.Ytfadhgbhdoddpaa.SeEq

/-- sealed is what opens -/
theorem seal_open (s : ByteArray) (h4 : 4 ≤ s.size) : (str (sealL (bl (s.extract 0 (s.size - 4)))) = s) ↔ sumL (bl s) = 0#32 := by
  rw [ext_bl, List.drop_zero, Nat.sub_zero]
  have := seal_only (bl s) (by rw [bl_len]; exact h4)
  rw [bl_len] at this
  constructor
  · intro h
    refine this.2 ?_
    have h' := congrArg bl h
    rw [bl_str] at h'
    exact h'.symm
  · intro h
    exact bl_inj (by rw [bl_str]; exact (this.1 h).symm)
set_option maxRecDepth 100000
theorem ropen_any (s : ByteArray) (w : World) (hs : s.size ≤ 1099511627776) :
    Calls Try.prog 57 #[.string s] w fun e w' => e = .returned (.tuple #[.string (openS s), .int .i64 (openE s)]) ∧ Below w.heap.size w w' := by
  have z2 : (s.size : Int) ≤ 1099511627776 := by omega
  by_cases h4 : s.size < 4
  · have t1 : decide ((s.size : Int) - 4 < 0) = true := by simp; omega
    have HE := Lib.hid (show openE s = 10 ∧ openS s = nob by simp [openE, openS, h4])
    clear h4
    rw [HE.out.1, HE.out.2]
    go_enter Try.func57, Try.ntmps57
    go_wp2_with fail
    go_ret2
    exact ⟨rfl, Below.refl _ _⟩
  · have t1 : decide ((s.size : Int) - 4 < 0) = false := by simp; omega
    have z4 : (4 : Int) ≤ (s.size : Int) := by omega
    have k1 := fun V => rseal_any (s.extract 0 (s.size - 4)) V (by rw [ByteArray.size_extract]; omega)
    have hso := seal_open s (by omega)
    obtain ⟨Z, hZ⟩ : ∃ Z, str (sealL (bl (s.extract 0 (s.size - 4)))) = Z := ⟨_, rfl⟩
    rw [hZ] at k1 hso
    by_cases h0 : sumL (bl s) = 0#32
    · have HE := Lib.hid (show openE s = 0 ∧ openS s = s.extract 0 (s.size - 4) by simp [openE, openS, h4, h0])
      rw [HE.out.1, HE.out.2]
      obtain rfl := hso.2 h0
      clear h0 h4 hso hZ
      go_enter Try.func57, Try.ntmps57
      go_wp2_with fail
      (with_reducible refine (k1 _).mono ?_); rintro e1 W1 ⟨rfl, hb1⟩
      go_wp2_with fail
      go_ret2
      exact ⟨rfl, hb1⟩
    · have HE := Lib.hid (show openE s = 13 ∧ openS s = nob by simp [openE, openS, h4, h0])
      rw [HE.out.1, HE.out.2]
      have t2 : (Z.toList == s.toList) = false := by rw [bytes_eq]; simpa using fun e => h0 (hso.1 e)
      clear h0 h4 hso hZ
      go_enter Try.func57, Try.ntmps57
      go_wp2_with fail
      (with_reducible refine (k1 _).mono ?_); rintro e1 W1 ⟨rfl, hb1⟩
      go_wp2_with fail
      go_ret2
      exact ⟨rfl, hb1⟩
end Go.Proofs.Ytfadhgbhdoddpaa.SeH
