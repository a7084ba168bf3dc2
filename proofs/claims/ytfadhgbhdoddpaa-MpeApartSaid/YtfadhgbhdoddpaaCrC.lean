/- crc, walked: Seal, Open. -/
import Derived.Test.YtfadhgbhdoddpaaCrB
namespace Go.Proofs.Ytfadhgbhdoddpaa.CrC
open Go Go.RowKit Go.Proofs.Ytfadhgbhdoddpaa.Q Go.Proofs.Ytfadhgbhdoddpaa.Mem Go.Proofs.Ytfadhgbhdoddpaa.Rg Go.Proofs.Ytfadhgbhdoddpaa.Ap Go.Proofs.Ytfadhgbhdoddpaa.CrP Go.Proofs.Ytfadhgbhdoddpaa.CrA Go.Proofs.Ytfadhgbhdoddpaa.CrB Go.Proofs.Ytfadhgbhdoddpaa.St

/-- the check sum of bytes -/
def sumL (l : List UInt8) : BitVec 32 := crc 4294967295#32 l
/-- bytes, and their check sum -/
def sealL (l : List UInt8) : List UInt8 := l ++ four (sumL l)
theorem seal_len (l : List UInt8) : (sealL l).length = l.length + 4 := by simp [sealL, four]
def openE (s : ByteArray) : Int := if s.size < 4 then 10 else if sumL (bl s) = 0#32 then 0 else 13
def openS (s : ByteArray) : ByteArray := if openE s = 0 then s.extract 0 (s.size - 4) else nob
/-- the bytes that are sealed are those that open -/
theorem open_seal (l : List UInt8) : sumL (sealL l) = 0#32 := by
  unfold sealL sumL
  rw [crc_app]
  exact crc_four _
theorem seal_only (l : List UInt8) (h4 : 4 ≤ l.length) : sumL l = 0#32 ↔ l = sealL (l.take (l.length - 4)) := by
  constructor
  · intro h
    have e : l = l.take (l.length - 4) ++ l.drop (l.length - 4) := (List.take_append_drop _ _).symm
    have hd : l.drop (l.length - 4) = four (sumL (l.take (l.length - 4))) := by
      apply four_only
      · simp; omega
      · have h' := h
        rw [e] at h'
        unfold sumL at h' ⊢
        rw [crc_app] at h'
        simpa using h'
    unfold sealL
    rw [← hd]
    exact e
  · intro h
    rw [h]
    exact open_seal _
theorem sum_one (s : ByteArray) (w : World) (hs : s.size ≤ 1099511627776) (g : Nat) (hg : g = w.heap.size) :
    Calls Try.prog 62 #[.slice (some ⟨g, 0, none⟩) 1 1] (w.alloc (.cells #[.string s] 9)) fun e w' => e = .returned (.int .u32 (u (sumL (bl s)))) ∧ Below w.heap.size w w' := by
  subst hg
  have hq : Seq enS 1 (w.alloc (.cells #[.string s] 9)) (some ⟨w.heap.size, 0, none⟩) [s] := seq_blk enS_len (Blk.new w 9 #[.string s]) rfl
  refine (sum_any _ 1 1 [s] _ rfl (by decide) hq (by simpa using hs)).mono fun e w' ⟨h1, h2⟩ => ⟨?_, ((Below.refl _ _).alloc (Nat.le_refl _) _).trans (h2.mono (by simp))⟩
  rw [h1]; simp [sumL, cat]
theorem fourN (x : BitVec 32) : IntKind.u8.wrap (u x / 16777216) = ((hi x).toNat : Int) ∧ IntKind.u8.wrap (u x / 65536) = ((hi (x <<< 8)).toNat : Int) ∧ IntKind.u8.wrap (u x / 256) = ((hi (x <<< 16)).toNat : Int) ∧ IntKind.u8.wrap (u x) = ((hi (x <<< 24)).toNat : Int) := by
  have := x.isLt
  rw [IntKind.wrap_u8, IntKind.wrap_u8, IntKind.wrap_u8, IntKind.wrap_u8, hi_toNat, hi_toNat, hi_toNat, hi_toNat, BitVec.toNat_shiftLeft, BitVec.toNat_shiftLeft, BitVec.toNat_shiftLeft, Nat.shiftLeft_eq, Nat.shiftLeft_eq, Nat.shiftLeft_eq]
  unfold u
  omega
theorem four_str (x : BitVec 32) : strOfNums [((hi x).toNat : Int), ((hi (x <<< 8)).toNat : Int), ((hi (x <<< 16)).toNat : Int), ((hi (x <<< 24)).toNat : Int)] = str (four x) := by
  rw [nums_str]; simp [four]
set_option maxRecDepth 100000
theorem seal_any (s : ByteArray) (w : World) (hs : s.size ≤ 1099511627776) :
    Calls Try.prog 42 #[.string s] w fun e w' => e = .returned (.string (str (sealL (bl s)))) ∧ Below w.heap.size w w' := by
  have k1 := sum_one s w hs w.heap.size rfl
  obtain ⟨X, hX⟩ : ∃ X, sumL (bl s) = X := ⟨_, rfl⟩
  have HE := Lib.hid (show str (sealL (bl s)) = s ++ str (four X) by
    unfold sealL; rw [hX, ← str_app, str_bl])
  rw [hX] at k1
  obtain ⟨q1, q2, q3, q4⟩ := fourN X
  have HF := Lib.hid (four_str X)
  obtain ⟨a, ha⟩ : ∃ a, ((hi X).toNat : Int) = a := ⟨_, rfl⟩
  obtain ⟨b, hb⟩ : ∃ a, ((hi (X <<< 8)).toNat : Int) = a := ⟨_, rfl⟩
  obtain ⟨c, hc⟩ : ∃ a, ((hi (X <<< 16)).toNat : Int) = a := ⟨_, rfl⟩
  obtain ⟨d, hd⟩ : ∃ a, ((hi (X <<< 24)).toNat : Int) = a := ⟨_, rfl⟩
  rw [ha, hb, hc, hd] at HF
  rw [ha] at q1
  rw [hb] at q2
  rw [hc] at q3
  rw [hd] at q4
  have hadd := fun U => add_at s (strOfNums [a, b, c, d]) (by rw [strOfNums_size]; simp; omega) U
  clear ha hb hc hd hX
  go_enter Try.func42, Try.ntmps42
  go_wp2_with fail
  (with_reducible refine (k1).mono ?_); rintro e1 W1 ⟨rfl, hb1⟩
  have kc := conv_new W1 [a, b, c, d] 4 W1.heap.size #[.int .u8 a, .int .u8 b, .int .u8 c, .int .u8 d] rfl rfl rfl
  go_wp2_with fail
  go_ret
  exact ⟨by rw [HE.out, ← HF.out]; rfl, hb1.alloc hb1.size _⟩
theorem open_any (s : ByteArray) (w : World) (hs : s.size ≤ 1099511627776) :
    Calls Try.prog 51 #[.string s] w fun e w' => e = .returned (.tuple #[.string (openS s), .int .i64 (openE s)]) ∧ Below w.heap.size w w' := by
  by_cases h4 : s.size < 4
  · have t1 : decide ((s.size : Int) < 4) = true := by simp; omega
    have HE := Lib.hid (show openE s = 10 ∧ openS s = nob by simp [openE, openS, h4])
    clear h4
    rw [HE.out.1, HE.out.2]
    go_enter Try.func51, Try.ntmps51
    go_wp2_with fail
    go_ret2
    exact ⟨rfl, Below.refl _ _⟩
  · have t1 : decide ((s.size : Int) < 4) = false := by simp; omega
    have k1 := sum_one s w hs w.heap.size rfl
    have z4 : (4 : Int) ≤ (s.size : Int) := by omega
    by_cases h0 : sumL (bl s) = 0#32
    · have HE := Lib.hid (show openE s = 0 ∧ openS s = s.extract 0 (s.size - 4) by simp [openE, openS, h4, h0])
      rw [HE.out.1, HE.out.2]
      rw [h0, show u 0#32 = 0 by decide] at k1
      clear h0 h4
      go_enter Try.func51, Try.ntmps51
      go_wp2_with fail
      (with_reducible refine (k1).mono ?_); rintro e1 W1 ⟨rfl, hb1⟩
      go_wp2_with fail
      go_ret2
      exact ⟨rfl, hb1⟩
    · have HE := Lib.hid (show openE s = 13 ∧ openS s = nob by simp [openE, openS, h4, h0])
      rw [HE.out.1, HE.out.2]
      obtain ⟨X, hX⟩ : ∃ X, u (sumL (bl s)) = X := ⟨_, rfl⟩
      have t2 : (X != 0) = true := by
        have : X ≠ 0 := fun e => h0 (BitVec.eq_of_toNat_eq (by rw [e] at hX; unfold u at hX; simpa using hX))
        simpa using this
      rw [hX] at k1
      clear h0 h4 hX
      go_enter Try.func51, Try.ntmps51
      go_wp2_with fail
      (with_reducible refine (k1).mono ?_); rintro e1 W1 ⟨rfl, hb1⟩
      go_wp2_with fail
      go_ret2
      exact ⟨rfl, hb1⟩
end Go.Proofs.Ytfadhgbhdoddpaa.CrC
