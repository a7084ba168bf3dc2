/- table: known, first. -/
import Derived.Test.YtlocgilgdnhnlaaGreatDoorTbS
import Derived.Test.YtlocgilgdnhnlaaGreatDoorPkD
namespace Go.Proofs.YtlocgilgdnhnlaaGreatDoor.TbT
open Go Go.RowKit Go.Proofs.YtlocgilgdnhnlaaGreatDoor.Q Go.Proofs.YtlocgilgdnhnlaaGreatDoor.Mem Go.Proofs.YtlocgilgdnhnlaaGreatDoor.Rg Go.Proofs.YtlocgilgdnhnlaaGreatDoor.Ap Go.Proofs.YtlocgilgdnhnlaaGreatDoor.ApG Go.Proofs.YtlocgilgdnhnlaaGreatDoor.St Go.Proofs.YtlocgilgdnhnlaaGreatDoor.BiW Go.Proofs.YtlocgilgdnhnlaaGreatDoor.BiG Go.Proofs.YtlocgilgdnhnlaaGreatDoor.CrB Go.Proofs.YtlocgilgdnhnlaaGreatDoor.DgB Go.Proofs.YtlocgilgdnhnlaaGreatDoor.DgC Go.Proofs.YtlocgilgdnhnlaaGreatDoor.TlS Go.Proofs.YtlocgilgdnhnlaaGreatDoor.TbM Go.Proofs.YtlocgilgdnhnlaaGreatDoor.TbN Go.Proofs.YtlocgilgdnhnlaaGreatDoor.TbO Go.Proofs.YtlocgilgdnhnlaaGreatDoor.TbP Go.Proofs.YtlocgilgdnhnlaaGreatDoor.TbQ

set_option maxRecDepth 100000
/-- how many bytes are known from p on, no more than f -/
def kn (S : Tb) : Nat → Nat → Nat
  | _, 0 => 0
  | p, f + 1 => if atI S p then kn S (p + 1) f + 1 else 0
theorem kn_le (S : Tb) : ∀ (f p : Nat), kn S p f ≤ f
  | 0, p => Nat.le_refl _
  | f + 1, p => by
    rw [kn]
    split
    · have := kn_le S f (p + 1); omega
    · omega
theorem kn_in (S : Tb) : ∀ (f p : Nat), p + kn S p f ≤ 191 * S.R ∨ kn S p f = 0
  | 0, p => Or.inr rfl
  | f + 1, p => by
    rw [kn]
    split
    · rename_i h
      have hp : p < 191 * S.R := by
        unfold atI at h
        split at h
        · rename_i h1; omega
        · cases h
      rcases kn_in S f (p + 1) with h1 | h1 <;> omega
    · exact Or.inr rfl
theorem kn_zero (S : Tb) (p : Nat) : kn S p 0 = 0 := rfl
theorem kn_full {S : Tb} {p n m : Nat} (h : n + kn S (p + n) (n - n) = m) : m = n := by rw [Nat.sub_self, kn_zero] at h; omega
/-- so many bytes from p on -/
def bytesL (S : Tb) (p k : Nat) : List UInt8 := (List.range k).map fun i => S.b (p + i)
theorem bytesL_succ (S : Tb) (p k : Nat) : bytesL S p (k + 1) = bytesL S p k ++ [S.b (p + k)] := by simp [bytesL, List.range_succ]
theorem bytesL_len (S : Tb) (p k : Nat) : (bytesL S p k).length = k := by simp [bytesL]
def knS (S : Tb) (p : Nat) : ByteArray := str (bytesL S p (kn S p 4080))
theorem atB_in {S : Tb} {p : Nat} (h : atI S p = true) : atB S p = S.b p := by
  unfold atI at h
  split at h
  · rename_i h1; exact if_pos h1
  · cases h
set_option maxHeartbeats 1600000 in
theorem known_any (w : World) (B gt gr p : Nat) (v : Value) (S : Tb) (h : TbIn w B gt gr v S) (hR : S.R ≤ 1024) (hp : p ≤ 1000000) :
    Calls Tryz.prog 27 #[.pointer (some ⟨gt, 0, none⟩), .int .i64 p] w fun e w' => e = .returned (.string (knS S p)) ∧ Below w.heap.size w w' := by
  have HH := Lib.hid h
  clear h
  have k0 : (0 : Int) ≤ (p : Int) := Int.natCast_nonneg _
  go_enter Tryz.func27, Tryz.ntmps27
  go_wp2_with fail
  go_loopw [5, 6] (fun out nv wr => ∃ k : Nat, k ≤ 4080 ∧ nv = .int .i64 ((p + k : Nat) : Int) ∧ Hid (k + kn S (p + k) (4080 - k) = kn S p 4080) ∧ wr.ownsRow w.heap.size 5 1 out k (u8s (bytesL S p k)) ∧ Below w.heap.size w wr) (fun _ nv _ => p + 4080 - (intOf nv).toNat)
  case atStart => exact ⟨0, by omega, by simp, Lib.hid (by simp), World.ownsRow_nil _ _ _ _, Below.refl _ _⟩
  case round =>
    obtain ⟨k, hk, rfl, HK, hown, hb⟩ := hrel
    have hbs := hb.size
    have q1 : (0 : Int) ≤ (k : Int) := Int.natCast_nonneg _
    have hpk : ((p + k : Nat) : Int) = (p : Int) + (k : Int) := by omega
    rw [hpk]
    clear hpk
    by_cases hkn : k < 4080
    · have t0 : decide ((p : Int) + (k : Int) < (p : Int) + 4080) = true := decide_eq_true (by omega)
      have ka := At_any wr B gt gr ((p + k : Nat) : Int) v S (HH.out.below hb) hR
      have hstep : kn S (p + k) (4080 - k) = if atI S ((p + k : Nat) : Int) then kn S (p + k + 1) (4080 - (k + 1)) + 1 else 0 := by
        rw [show 4080 - k = 4080 - (k + 1) + 1 by omega, kn]
      have hab := fun h => atB_in (S := S) (p := p + k) h
      obtain ⟨I, hI⟩ : ∃ I, atI S ((p + k : Nat) : Int) = I := ⟨_, rfl⟩
      obtain ⟨b, hbb⟩ : ∃ b, atB S ((p + k : Nat) : Int) = b := ⟨_, rfl⟩
      rw [hI, hbb] at ka
      rw [hI] at hstep
      rw [hI, hbb] at hab
      rw [show ((p + k : Nat) : Int) = (p : Int) + (k : Int) by omega] at ka
      clear hI hbb
      cases I with
      | true =>
        rw [if_pos rfl] at hstep
        have HX := Lib.hid (show k + 1 + kn S (p + (k + 1)) (4080 - (k + 1)) = kn S p 4080 from by
          have := HK.out
          rw [hstep] at this
          rw [show p + (k + 1) = p + k + 1 by omega]
          omega)
        have HB := Lib.hid (hab rfl)
        clear hstep hab
        go_wp2_with fail
        (with_reducible refine (ka).mono ?_); rintro e1 W1 ⟨hb1, rfl⟩
        have hown1 := own_below hown hb1
        have hb2 := hb.trans (hb1.mono hbs)
        have hb9 := Blk.new W1 5 #[.int .u8 (b.toNat : Int)]
        have hown2 := own_below hown1 ((Below.refl W1.heap.size W1).alloc (Nat.le_refl _) (.cells #[.int .u8 (b.toNat : Int)] 5))
        have hsz2 : w.heap.size ≤ (W1.alloc (.cells #[.int .u8 (b.toNat : Int)] 5)).heap.size := by have := hb2.size; simp; omega
        have hb3 := hb2.alloc hb2.size (.cells #[.int .u8 (b.toNat : Int)] 5)
        clear ka hown hown1 hb1 hb2
        go_wp2_with (at_builtin; refine wpList_app rfl _ _ rfl elemB rfl hown2 rfl rfl (blk_news hb9) (by simp [Value.oneCell']) (by omega) (by unfold maxLen; omega) hsz2 ?_)
        intro v9 w8 hown9 hb8
        have hb4 := hb3.trans hb8
        clear hown2 hb9 hb3 hb8
        go_wp2_with fail
        go_roundw
        case rel => exact ⟨k + 1, by omega, congrArg (Value.int .i64) (by omega), HX, by rw [bytesL_succ, HB.out.symm, show u8s (bytesL S p k ++ [b]) = u8s (bytesL S p k) ++ [.int .u8 (b.toNat : Int)] by simp [u8s, u8v]]; exact hown9, hb4⟩
        case measure => simp [intOf]; omega
      | false =>
        rw [if_neg (by decide)] at hstep
        have HX := Lib.hid (show kn S p 4080 = k from by have := HK.out; omega)
        clear hstep hab
        obtain ⟨ao, co, rfl⟩ := own_form hown
        go_wp2_with fail
        (with_reducible refine (ka).mono ?_); rintro e1 W1 ⟨hb1, rfl⟩
        have hcv := own_u8 (own_below hown hb1) (bytesL_len S p k)
        have hb2 := hb.trans (hb1.mono hbs)
        clear ka hown hb1
        go_wp2_with fail
        go_ret
        exact ⟨by unfold knS; rw [HX.out]; rfl, hb2⟩
    · obtain rfl : k = 4080 := by omega
      have t0 : decide ((p : Int) + ((4080 : Nat) : Int) < (p : Int) + 4080) = false := decide_eq_false (by omega)
      have HX := Lib.hid (show kn S p 4080 = 4080 from kn_full HK.out)
      obtain ⟨ao, co, rfl⟩ := own_form hown
      have hcv := own_u8 hown (bytesL_len S p 4080)
      go_wp2_with fail
      go_ret
      exact ⟨by unfold knS; rw [HX.out]; rfl, hb⟩
/-- how long the datagram is with which bytes begin; 0: there is none -/
def fsN (s : ByteArray) : Nat := if pkE s = 0 ∧ (pkH s).length ≤ s.size ∧ dgE (s.extract 0 (pkH s).length.toNat) = 0 then (pkH s).length.toNat else 0
theorem fsN_le (s : ByteArray) : fsN s ≤ s.size := by
  unfold fsN
  split
  · rename_i h; omega
  · omega
theorem fsN_pos {s : ByteArray} (h : pkE s = 0 ∧ (pkH s).length ≤ s.size ∧ dgE (s.extract 0 (pkH s).length.toNat) = 0) : 0 < fsN s := by
  unfold fsN
  rw [if_pos h]
  have := pk_ok h.1
  omega
set_option maxHeartbeats 1600000 in
theorem first_any (s : ByteArray) (w : World) (hs : s.size ≤ 1099511627776) :
    Calls Tryz.prog 26 #[.string s] w fun e w' => e = .returned (.tuple #[.string (s.extract 0 (fsN s)), .bool (decide (0 < fsN s))]) ∧ Below w.heap.size w w' := by
  have kp := fun V => peek_any s V hs
  have hpk := fun h => pk_ok (s := s) h
  have HD := Lib.hid (show fsN s = if pkE s = 0 ∧ (pkH s).length ≤ s.size ∧ dgE (s.extract 0 (pkH s).length.toNat) = 0 then (pkH s).length.toNat else 0 from rfl)
  obtain ⟨E, hE⟩ : ∃ E, pkE s = E := ⟨_, rfl⟩
  obtain ⟨H, hH⟩ : ∃ H, pkH s = H := ⟨_, rfl⟩
  rw [hE, hH] at kp hpk HD
  clear hE hH
  obtain ⟨ver, header, len, proto⟩ := H
  unfold Hd.vals at kp
  dsimp only at kp hpk HD
  have hnone : fsN s = 0 → s.extract 0 (fsN s) = ⟨#[]⟩ ∧ decide (0 < fsN s) = false := fun h => by
    rw [h]
    refine ⟨?_, rfl⟩
    apply ByteArray.ext
    simp
  by_cases hE0 : E = 0
  · subst hE0
    obtain ⟨_, h20, hhl, h4080⟩ := hpk rfl
    clear hpk
    obtain ⟨n, rfl⟩ := Int.eq_ofNat_of_zero_le (show 0 ≤ len by omega)
    by_cases hls : n ≤ s.size
    · have t1 : decide (s.size < n) = false := decide_eq_false (by omega)
      have t2 : decide ((s.size : Int) < (n : Int)) = false := decide_eq_false (by omega)
      have hx : (s.extract 0 n).size ≤ 1099511627776 := by rw [ByteArray.size_extract]; omega
      have kc := fun V => check_any (s.extract 0 n) V hx
      rw [Int.toNat_natCast] at HD
      obtain ⟨C, hC⟩ : ∃ C, dgE (s.extract 0 n) = C := ⟨_, rfl⟩
      rw [hC] at kc HD
      have n1 : (n : Int) ≤ (s.size : Int) := by omega
      have n2 : (0 : Int) ≤ (n : Int) := Int.natCast_nonneg _
      clear hC hx
      by_cases hC0 : C = 0
      · subst hC0
        have hf : fsN s = n := by rw [HD.out, if_pos ⟨rfl, by omega, rfl⟩]
        have HX := Lib.hid (show s.extract 0 (fsN s) = s.extract 0 n ∧ decide (0 < fsN s) = true from by rw [hf]; exact ⟨rfl, decide_eq_true (by omega)⟩)
        clear hf hls hnone HD h20 hhl
        go_enter Tryz.func26, Tryz.ntmps26
        go_wp2_with fail
        (with_reducible refine (kp _).mono ?_); rintro e1 W1 ⟨rfl, hb1⟩
        have hbk := Blk.new W1 93 #[.int .i64 ver, .int .i64 header, .int .i64 (n : Int), .int .i64 proto]
        have c0 := Blk.cell (hbk) 0 (v := .int .i64 ver) rfl
        have c1 := Blk.cell (hbk) 1 (v := .int .i64 header) rfl
        have c2 := Blk.cell (hbk) 2 (v := .int .i64 (n : Int)) rfl
        have c3 := Blk.cell (hbk) 3 (v := .int .i64 proto) rfl
        have hb0 := hb1.alloc hb1.size (.cells #[.int .i64 ver, .int .i64 header, .int .i64 (n : Int), .int .i64 proto] 93)
        go_wp2_with fail
        (with_reducible refine (kc _).mono ?_); rintro e2 W2 ⟨rfl, hb3⟩
        have hbk2 := Blk.below hbk hb3 hbk.lt
        have d0 := Blk.cell (hbk2) 0 (v := .int .i64 ver) rfl
        have d1 := Blk.cell (hbk2) 1 (v := .int .i64 header) rfl
        have d2 := Blk.cell (hbk2) 2 (v := .int .i64 (n : Int)) rfl
        have d3 := Blk.cell (hbk2) 3 (v := .int .i64 proto) rfl
        have hb2 := hb0.trans (hb3.mono hb0.size)
        clear kp kc c0 c1 c2 c3 hb3
        go_wp2_with fail
        go_ret2
        exact ⟨by rw [HX.out.1, HX.out.2]; rfl, hb2⟩
      · have t4 : (C == 0) = false := beq_eq_false_iff_ne.2 hC0
        have t5 : (C != 0) = true := by simpa using hC0
        have HX := Lib.hid (hnone (by rw [HD.out, if_neg (fun h => hC0 h.2.2)]))
        clear hls hnone HD h20 hhl
        go_enter Tryz.func26, Tryz.ntmps26
        go_wp2_with fail
        (with_reducible refine (kp _).mono ?_); rintro e1 W1 ⟨rfl, hb1⟩
        have hbk := Blk.new W1 93 #[.int .i64 ver, .int .i64 header, .int .i64 (n : Int), .int .i64 proto]
        have c0 := Blk.cell (hbk) 0 (v := .int .i64 ver) rfl
        have c1 := Blk.cell (hbk) 1 (v := .int .i64 header) rfl
        have c2 := Blk.cell (hbk) 2 (v := .int .i64 (n : Int)) rfl
        have c3 := Blk.cell (hbk) 3 (v := .int .i64 proto) rfl
        have hb0 := hb1.alloc hb1.size (.cells #[.int .i64 ver, .int .i64 header, .int .i64 (n : Int), .int .i64 proto] 93)
        go_wp2_with fail
        (with_reducible refine (kc _).mono ?_); rintro e2 W2 ⟨rfl, hb3⟩
        have hb2 := hb0.trans (hb3.mono hb0.size)
        clear kp kc c0 c1 c2 c3 hb3
        go_wp2_with fail
        go_ret2
        exact ⟨by rw [HX.out.1, HX.out.2]; rfl, hb2⟩
    · have t1 : decide (s.size < n) = true := decide_eq_true (by omega)
      have t2 : decide ((s.size : Int) < (n : Int)) = true := decide_eq_true (by omega)
      have HX := Lib.hid (hnone (by rw [HD.out, if_neg (fun h => hls (by have := h.2.1; omega))]))
      clear hls hnone HD h20 hhl
      go_enter Tryz.func26, Tryz.ntmps26
      go_wp2_with fail
      (with_reducible refine (kp _).mono ?_); rintro e1 W1 ⟨rfl, hb1⟩
      have hbk := Blk.new W1 93 #[.int .i64 ver, .int .i64 header, .int .i64 (n : Int), .int .i64 proto]
      have c0 := Blk.cell (hbk) 0 (v := .int .i64 ver) rfl
      have c1 := Blk.cell (hbk) 1 (v := .int .i64 header) rfl
      have c2 := Blk.cell (hbk) 2 (v := .int .i64 (n : Int)) rfl
      have c3 := Blk.cell (hbk) 3 (v := .int .i64 proto) rfl
      have hb2 := hb1.alloc hb1.size (.cells #[.int .i64 ver, .int .i64 header, .int .i64 (n : Int), .int .i64 proto] 93)
      clear kp
      go_wp2_with fail
      go_ret2
      exact ⟨by rw [HX.out.1, HX.out.2]; rfl, hb2⟩
  · have t4 : (E == 0) = false := beq_eq_false_iff_ne.2 hE0
    have t5 : (E != 0) = true := by simpa using hE0
    have HX := Lib.hid (hnone (by rw [HD.out, if_neg (fun h => hE0 h.1)]))
    clear hnone HD hpk
    go_enter Tryz.func26, Tryz.ntmps26
    go_wp2_with fail
    (with_reducible refine (kp _).mono ?_); rintro e1 W1 ⟨rfl, hb1⟩
    have hb2 := hb1.alloc hb1.size (.cells #[.int .i64 ver, .int .i64 header, .int .i64 len, .int .i64 proto] 93)
    clear kp
    go_wp2_with fail
    go_ret2
    exact ⟨by rw [HX.out.1, HX.out.2]; rfl, hb2⟩
end Go.Proofs.YtlocgilgdnhnlaaGreatDoor.TbT
