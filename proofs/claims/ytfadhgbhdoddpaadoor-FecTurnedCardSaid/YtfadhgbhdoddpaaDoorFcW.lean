/- fec: the chapter's example. -/
import Derived.Test.YtfadhgbhdoddpaaDoorFcP
import Derived.Test.YtfadhgbhdoddpaaDoorFcT
namespace Go.Proofs.YtfadhgbhdoddpaaDoor.FcW
open Go Go.RowKit Go.Proofs.YtfadhgbhdoddpaaDoor.Q Go.Proofs.YtfadhgbhdoddpaaDoor.Mem Go.Proofs.YtfadhgbhdoddpaaDoor.Rg Go.Proofs.YtfadhgbhdoddpaaDoor.Ap Go.Proofs.YtfadhgbhdoddpaaDoor.St Go.Proofs.YtfadhgbhdoddpaaDoor.BiP Go.Proofs.YtfadhgbhdoddpaaDoor.BiW Go.Proofs.YtfadhgbhdoddpaaDoor.BiG Go.Proofs.YtfadhgbhdoddpaaDoor.CrP Go.Proofs.YtfadhgbhdoddpaaDoor.CrC Go.Proofs.YtfadhgbhdoddpaaDoor.SeA Go.Proofs.YtfadhgbhdoddpaaDoor.SeC Go.Proofs.YtfadhgbhdoddpaaDoor.SeE Go.Proofs.YtfadhgbhdoddpaaDoor.SeEq Go.Proofs.YtfadhgbhdoddpaaDoor.SeI Go.Proofs.YtfadhgbhdoddpaaDoor.SeP Go.Proofs.YtfadhgbhdoddpaaDoor.TmA Go.Proofs.YtfadhgbhdoddpaaDoor.TmB Go.Proofs.YtfadhgbhdoddpaaDoor.Tab Go.Proofs.YtfadhgbhdoddpaaDoor.FcA Go.Proofs.YtfadhgbhdoddpaaDoor.FcB Go.Proofs.YtfadhgbhdoddpaaDoor.FcC Go.Proofs.YtfadhgbhdoddpaaDoor.FcD Go.Proofs.YtfadhgbhdoddpaaDoor.FcP

def colL (k : Nat) : List UInt8 := (List.range k).map fun i => UInt8.ofNat (7 + i % 11)
theorem col_len (k : Nat) : (colL k).length = k := by simp [colL]
theorem col_succ (k : Nat) : colL (k + 1) = colL k ++ [UInt8.ofNat (7 + k % 11)] := by simp [colL, List.range_succ]
set_option maxRecDepth 100000
set_option maxHeartbeats 800000 in
theorem column_any (w : World) : Calls Tryd.prog 19 #[.int .i64 256, .int .u8 7] w fun e w' => e = .returned (.string (str (colL 256))) ∧ Below w.heap.size w w' := by
  have hm := mk_bytes 256 (by omega) w
  rw [show ((256 : Nat) : Int) = 256 from rfl] at hm
  go_enter Tryd.func19, Tryd.ntmps19
  go_wp2_with fail
  go_loopw [6] (fun i wr => ∃ k : Nat, k ≤ 256 ∧ i = .int .i64 k ∧ Hid (Blk wr w.heap.size 5 (rowB (colL k) (256 - k)) ∧ Below w.heap.size w wr)) (fun i _ => 256 - (intOf i).toNat)
  case atStart => exact ⟨0, by omega, rfl, Lib.hid ⟨Blk.new _ _ _, (Below.refl _ _).alloc (Nat.le_refl _) _⟩⟩
  case round =>
    obtain ⟨k, hk, rfl, hI⟩ := hrel
    by_cases hkl : k < 256
    · have t0 : decide ((k : Int) < 256) = true := by simp; omega
      obtain ⟨hB, hE⟩ := hI.out
      obtain ⟨m, hmk⟩ : ∃ m, 256 - k = m + 1 := ⟨255 - k, by omega⟩
      rw [hmk] at hB
      have c1 := Blk.cell hB k (v := .int .u8 0) (by have := rowB_at (colL k) m; rw [col_len] at this; exact this)
      have f1 := Blk.frozen hB k
      have hB2 : Blk (wr.setCell ⟨w.heap.size, k, none⟩ (.int .u8 (7 + (k : Int) % 11))) w.heap.size 5 (rowB (colL (k + 1)) (256 - (k + 1))) := by
        have h1 := hB.set_ k (.int .u8 (7 + (k : Int) % 11))
        have h2 := rowB_set (colL k) m (UInt8.ofNat (7 + k % 11))
        rw [col_len, ← col_succ] at h2
        have h3 : u8v (UInt8.ofNat (7 + k % 11)) = .int .u8 (7 + (k : Int) % 11) := by
          unfold u8v
          congr 1
          rw [UInt8.toNat_ofNat']
          omega
        rw [h3] at h2
        rw [h2, show m = 256 - (k + 1) by omega] at h1
        exact h1
      have hE2 := hE.setCell (p := ⟨w.heap.size, k, none⟩) (Nat.le_refl _) (.int .u8 (7 + (k : Int) % 11))
      have HX := Lib.hid (And.intro hB2 hE2)
      clear hB2 hE2 hB hE hI hmk hm
      go_wp2_with fail
      go_roundw
      case rel => exact ⟨k + 1, by omega, by go_num, HX⟩
      case measure => simp [intOf]; omega
    · obtain rfl : k = 256 := by omega
      obtain ⟨hB, hE⟩ := hI.out
      have hc := conv_row (l := colL 256) (n := 256) hB (col_len 256) 256
      clear hI hm
      go_wp2_with fail
      go_ret
      exact ⟨rfl, hE⟩
def exP : Fp := ⟨2, 1, 3, zeroT, str (colL 256)⟩
theorem ex_chk : exP.chk = 0 := by
  unfold Fp.chk
  rw [if_pos ⟨by decide, by decide⟩, if_pos]
  unfold isSz exP
  rw [str_size, col_len]
  decide
theorem ex_size : exP.enc.size = 272 := by
  rw [enc_size ex_chk]
  unfold exP
  rw [str_size, col_len]
theorem ex_front : exP.enc.extract 0 12 = str [120, 241, 13, 2, 255, 255, 1, 3, 0, 0, 0, 0] := by
  obtain ⟨c, h1, h2⟩ := enc_bl ex_chk
  apply bl_inj
  rw [ext_bl, h1, List.drop_zero, bl_str]
  have e1 : frontL exP.sec = [120, 241, 13, 2, 255, 255, 1, 3] := by
    have hs : exP.sec.body.size = 260 := by rw [sec_size (by decide)]; unfold exP; rw [str_size, col_len]
    unfold frontL
    rw [hs]
    rfl
  have e2 : tmL exP.times = [0, 0, 0, 0] := rfl
  rw [e1, e2]
  rfl
theorem ex_mid : exP.enc.extract 12 268 = str (colL 256) := by
  obtain ⟨c, h1, h2⟩ := enc_bl ex_chk
  apply bl_inj
  have hb : bl exP.text = colL 256 := rfl
  rw [ext_bl, h1, bl_str, hb, ← List.append_assoc, List.drop_append_of_le_length (by rw [List.length_append, tm_len, front_len]; omega), List.drop_of_length_le (by rw [List.length_append, tm_len, front_len]; omega), List.nil_append, List.take_append_of_le_length (by rw [col_len]; omega), List.take_of_length_le (by rw [col_len]; omega)]
set_option maxHeartbeats 800000 in
theorem awake_any (w : World) (hT : Tab 0 w) : Calls Tryd.prog 8 #[] w fun e w' => e = .returned (.bool true) ∧ Below w.heap.size w w' := by
  have kc := fun V => column_any V
  have ke := fun V (h : Tab 0 V) => fenc_any exP V h
  rw [ex_chk] at ke
  have h1 := ex_size
  have h2 := ex_front
  have h3 := ex_mid
  obtain ⟨S, hS⟩ : ∃ S, exP.enc = S := ⟨_, rfl⟩
  rw [hS] at ke h1 h2 h3
  unfold exP Fp.vals zeroT at ke
  obtain ⟨C, hC⟩ : ∃ C, str (colL 256) = C := ⟨_, rfl⟩
  rw [hC] at kc ke h3
  unfold str at h2
  have e2 : ((S.extract 0 12).toList == (ByteArray.mk #[120, 241, 13, 2, 255, 255, 1, 3, 0, 0, 0, 0]).toList) = true := by rw [bytes_eq, h2]; simp
  have e3 : ((S.extract 12 268).toList == C.toList) = true := by rw [bytes_eq, h3]; simp
  have z1 : (12 : Int) ≤ (S.size : Int) := by omega
  have z2 : (268 : Int) ≤ (S.size : Int) := by omega
  clear hS hC
  go_enter Tryd.func8, Tryd.ntmps8
  go_wp2_with fail
  (with_reducible refine (kc _).mono ?_); rintro e1 W1 ⟨rfl, hb1⟩
  have HT1 := Lib.hid (hT.be hb1)
  go_wp2_with fail
  (with_reducible refine (ke _ HT1.out).mono ?_); rintro e1 W2 ⟨rfl, hb2⟩
  have hE := hb1.trans (hb2.mono hb1.size)
  go_wp2_with fail
  refine Go.Proofs.YtfadhgbhdoddpaaDoor.Q.region_ext (by kernel_rfl) (by kernel_rfl) ?_
  repeat (go_big_quiet_step ((go_at_call 19; exact ext_call (kc _))))
  refine wpQuiet_nil ?_
  rintro w9 ⟨pq, rfl⟩
  have hE2 := hE.trans ((below_ext _ pq).mono hE.size)
  go_wp2_with fail
  go_ret
  exact ⟨rfl, hE2⟩
end Go.Proofs.YtfadhgbhdoddpaaDoor.FcW
