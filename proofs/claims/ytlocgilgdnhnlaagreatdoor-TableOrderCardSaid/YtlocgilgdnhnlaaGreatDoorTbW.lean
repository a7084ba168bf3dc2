/- table: mends, Mend, where what is known of each row is a word's. -/
import Derived.Test.YtlocgilgdnhnlaaGreatDoorTbV
namespace Go.Proofs.YtlocgilgdnhnlaaGreatDoor.TbW
open Go Go.RowKit Go.Proofs.YtlocgilgdnhnlaaGreatDoor.Q Go.Proofs.YtlocgilgdnhnlaaGreatDoor.Mem Go.Proofs.YtlocgilgdnhnlaaGreatDoor.Rg Go.Proofs.YtlocgilgdnhnlaaGreatDoor.Ap Go.Proofs.YtlocgilgdnhnlaaGreatDoor.St Go.Proofs.YtlocgilgdnhnlaaGreatDoor.BiW Go.Proofs.YtlocgilgdnhnlaaGreatDoor.BiG Go.Proofs.YtlocgilgdnhnlaaGreatDoor.Ints Go.Proofs.YtlocgilgdnhnlaaGreatDoor.CrB Go.Proofs.YtlocgilgdnhnlaaGreatDoor.TlS Go.Proofs.YtlocgilgdnhnlaaGreatDoor.TbM Go.Proofs.YtlocgilgdnhnlaaGreatDoor.TbN Go.Proofs.YtlocgilgdnhnlaaGreatDoor.TbQ Go.Proofs.YtlocgilgdnhnlaaGreatDoor.GfP Go.Proofs.YtlocgilgdnhnlaaGreatDoor.RsP Go.Proofs.YtlocgilgdnhnlaaGreatDoor.PoA Go.Proofs.YtlocgilgdnhnlaaGreatDoor.MdA Go.Proofs.YtlocgilgdnhnlaaGreatDoor.MdP Go.Proofs.YtlocgilgdnhnlaaGreatDoor.TbV

set_option maxRecDepth 100000
/-- a row is filled, k columns of it -/
def filN (S : Tb) (r : Nat) (cw : List UInt8) (k : Nat) : Tb := { S with b := fun p => if p % S.R = r ∧ p / S.R < k then fa cw (p / S.R) else S.b p, is := fun p => if p % S.R = r ∧ p / S.R < k then true else S.is p }
theorem filN_zero (S : Tb) (r : Nat) (cw : List UInt8) : filN S r cw 0 = S := by
  unfold filN
  simp
theorem place_iff {R r k p : Nat} (hr : r < R) : p = k * R + r ↔ p % R = r ∧ p / R = k := by
  constructor
  · rintro rfl
    rw [Nat.mul_comm k R]
    exact ⟨by rw [Nat.mul_add_mod, Nat.mod_eq_of_lt hr], by rw [Nat.mul_add_div (by omega), Nat.div_eq_of_lt hr]; omega⟩
  · rintro ⟨rfl, rfl⟩
    rw [Nat.mul_comm]
    exact (Nat.div_add_mod p R).symm
theorem filN_step (S : Tb) (r : Nat) (cw : List UInt8) (k : Nat) (hr : r < S.R) : (filN S r cw k).set (k * S.R + r) (fa cw k) = filN S r cw (k + 1) := by
  unfold filN Tb.set
  simp only [Tb.mk.injEq, true_and, and_true]
  refine ⟨funext fun p => ?_, funext fun p => ?_⟩
  · by_cases h : p = k * S.R + r
    · have h2 := (place_iff hr).1 h
      rw [if_pos h, if_pos ⟨h2.1, by omega⟩, h2.2]
    · rw [if_neg h]
      have h2 : ¬ (p % S.R = r ∧ p / S.R = k) := fun e => h ((place_iff hr).2 e)
      by_cases h3 : p % S.R = r ∧ p / S.R < k
      · rw [if_pos h3, if_pos ⟨h3.1, by omega⟩]
      · rw [if_neg h3, if_neg (fun e => h3 ⟨e.1, by have := e.2; have : p / S.R ≠ k := fun e2 => h2 ⟨e.1, e2⟩; omega⟩)]
  · by_cases h : p = k * S.R + r
    · have h2 := (place_iff hr).1 h
      rw [if_pos h, if_pos ⟨h2.1, by omega⟩]
    · rw [if_neg h]
      have h2 : ¬ (p % S.R = r ∧ p / S.R = k) := fun e => h ((place_iff hr).2 e)
      by_cases h3 : p % S.R = r ∧ p / S.R < k
      · rw [if_pos h3, if_pos ⟨h3.1, by omega⟩]
      · rw [if_neg h3, if_neg (fun e => h3 ⟨e.1, by have := e.2; have : p / S.R ≠ k := fun e2 => h2 ⟨e.1, e2⟩; omega⟩)]
theorem mends_no (w : World) (p : Value) (a : Option Addr) (c n : Nat) (h : 64 < n) : Calls Tryz.prog 24 #[p, .slice a n c] w fun e w' => e = .returned (.bool false) ∧ w = w' := by
  have t0 : decide ((64 : Int) < (n : Int)) = true := decide_eq_true (by omega)
  have t0' : decide (64 < n) = true := decide_eq_true h
  clear h
  go_enter Tryz.func24, Tryz.ntmps24
  go_wp2_with fail
  go_ret
  exact ⟨rfl, rfl⟩
set_option maxHeartbeats 1600000 in
theorem mends_any (w : World) (B gt gr r : Nat) (v : Value) (S : Tb) (a : Option Addr) (c n : Nat) (cw : List UInt8) (h : TbIn w B gt gr v S) (hr : r < S.R) (hG : RowOf S r cw) (hn : (lostL S r).length = n) (hI : Ints w a (zI (lostL S r))) (h0 : 0 < n) (h64 : n ≤ 64) :
    Calls Tryz.prog 24 #[.pointer (some ⟨gr, r * 510, none⟩), .slice a n c] w fun e w' => e = .returned (.bool true) ∧ TbIn w' B gt gr v (filN S r cw 255) ∧ Kept (· = gr) w w' := by
  have kw := word_row w B gt gr r v S a c n cw h hr hG hn hI h0 h64
  have HT := Lib.hid h
  have HR := Lib.hid hr
  have t0 : decide ((64 : Int) < (n : Int)) = false := decide_eq_false (by omega)
  have t0' : decide (64 < n) = false := decide_eq_false (by omega)
  have hcs : (str cw).size = 255 := by rw [str_size, hG.len]
  have hmin : min (((str cw).size : Nat) : Int) 255 = 255 := by rw [hcs]; rfl
  have HX := Lib.hid (show ∀ k, k < 255 → (bl (str cw))[k]? = some (fa cw k) from fun k hk => by
    rw [bl_str]
    obtain ⟨y, hy⟩ : ∃ y, cw[k]? = some y := ⟨_, List.getElem?_eq_getElem (by rw [hG.len]; exact hk)⟩
    rw [hy, fa_in hy])
  obtain ⟨cs, hcw⟩ : ∃ cs, str cw = cs := ⟨_, rfl⟩
  rw [hcw] at kw hmin HX
  clear h hr hG hn hI h0 h64 hcs hcw
  go_enter Tryz.func24, Tryz.ntmps24
  go_wp2_with fail
  (with_reducible refine (kw).mono ?_); rintro e1 W1 ⟨rfl, hb1⟩
  clear kw
  go_wp2_with fail
  go_loopw [22] (fun iv W => ∃ k : Nat, k ≤ 255 ∧ iv = .int .i64 k ∧ Hid (TbIn W B gt gr v (filN S r cw k)) ∧ Kept (· = gr) w W) (fun iv _ => 255 - (intOf iv).toNat)
  case atStart => exact ⟨0, by omega, rfl, Lib.hid (by rw [filN_zero]; exact HT.out.below hb1), kept_below _ hb1⟩
  case round =>
    clear hb1 hmin
    obtain ⟨k, hk, rfl, hT, hK⟩ := hrel
    have k0 : (0 : Int) ≤ (k : Int) := Int.natCast_nonneg _
    by_cases hkn : k < 255
    · have t2 : decide ((k : Int) < 255) = true := decide_eq_true (by omega)
      have k1 : (k : Int) < 255 := by omega
      have ix := ix_of (HX.out k hkn)
      have ks := set_any wr B gt gr r k v (filN S r cw k) (fa cw k) hT.out hkn HR.out
      rw [show (filN S r cw k).R = S.R from rfl, filN_step S r cw k HR.out] at ks
      obtain ⟨x, hx⟩ : ∃ x, fa cw k = x := ⟨_, rfl⟩
      rw [hx] at ix ks
      clear hx
      go_wp2_with fail
      (with_reducible refine (ks).mono ?_); rintro e3 W3 ⟨rfl, hT3, hK3⟩
      have H3 := Lib.hid hT3
      have hK4 := hK.trans hK3 (fun _ _ e => e)
      clear ks hT hT3 hK hK3
      go_wp2_with fail
      go_roundw
      case rel => exact ⟨k + 1, by omega, by go_num, H3, hK4⟩
      case measure => simp [intOf]; omega
    · obtain rfl : k = 255 := by omega
      have t2 : decide (((255 : Nat) : Int) < 255) = false := by decide
      go_wp2_with fail
      go_ret
      exact ⟨rfl, hT.out, hK⟩
/-- is a row to be mended? does it fail? -/
def okR (S : Tb) (r : Nat) : Bool := decide (0 < (lostL S r).length ∧ (lostL S r).length ≤ 64)
def badR (S : Tb) (r : Nat) : Bool := decide (64 < (lostL S r).length)
def cntM (S : Tb) (i : Nat) : Nat := ((List.range i).filter (okR S)).length
def cntF (S : Tb) (i : Nat) : Nat := ((List.range i).filter (badR S)).length
/-- the table of which i rows are mended -/
def mdS (S : Tb) (C : Nat → List UInt8) (i : Nat) : Tb := { S with b := fun p => if p % S.R < i ∧ p / S.R < 255 ∧ okR S (p % S.R) = true then fa (C (p % S.R)) (p / S.R) else S.b p, is := fun p => if p % S.R < i ∧ p / S.R < 255 ∧ okR S (p % S.R) = true then true else S.is p }
theorem mdS_zero (S : Tb) (C : Nat → List UInt8) : mdS S C 0 = S := by
  unfold mdS
  simp
theorem cntM_step (S : Tb) (i : Nat) : cntM S (i + 1) = cntM S i + if okR S i then 1 else 0 := by
  unfold cntM
  rw [List.range_succ, List.filter_append, List.length_append]
  cases h : okR S i <;> simp [h]
theorem cntF_step (S : Tb) (i : Nat) : cntF S (i + 1) = cntF S i + if badR S i then 1 else 0 := by
  unfold cntF
  rw [List.range_succ, List.filter_append, List.length_append]
  cases h : badR S i <;> simp [h]
theorem cntM_le (S : Tb) (i : Nat) : cntM S i ≤ i := by
  have := List.length_filter_le (okR S) (List.range i)
  unfold cntM
  simpa using this
theorem cntF_le (S : Tb) (i : Nat) : cntF S i ≤ i := by
  have := List.length_filter_le (badR S) (List.range i)
  unfold cntF
  simpa using this
/-- the place of a column of a row -/
theorem place_div {R r c : Nat} (hr : r < R) : (c * R + r) % R = r ∧ (c * R + r) / R = c := (place_iff hr).1 rfl
theorem mdS_is (S : Tb) (C : Nat → List UInt8) (i r c : Nat) (hr : r < S.R) (hc : c < 255) : (mdS S C i).is (c * S.R + r) = (if r < i ∧ okR S r = true then true else S.is (c * S.R + r)) := by
  obtain ⟨h1, h2⟩ := place_div (c := c) hr
  show (if _ then _ else _) = _
  rw [h1, h2]
  by_cases h : r < i ∧ okR S r = true
  · rw [if_pos h, if_pos ⟨h.1, hc, h.2⟩]
  · rw [if_neg h, if_neg (fun e => h ⟨e.1, e.2.2⟩)]
theorem mdS_b (S : Tb) (C : Nat → List UInt8) (i r c : Nat) (hr : r < S.R) (hc : c < 255) : (mdS S C i).b (c * S.R + r) = (if r < i ∧ okR S r = true then fa (C r) c else S.b (c * S.R + r)) := by
  obtain ⟨h1, h2⟩ := place_div (c := c) hr
  show (if _ then _ else _) = _
  rw [h1, h2]
  by_cases h : r < i ∧ okR S r = true
  · rw [if_pos h, if_pos ⟨h.1, hc, h.2⟩]
  · rw [if_neg h, if_neg (fun e => h ⟨e.1, e.2.2⟩)]
theorem lost_same {S T : Tb} {r : Nat} (h : ∀ c, c < 255 → T.is (c * T.R + r) = S.is (c * S.R + r)) : lostL T r = lostL S r := by
  unfold lostL lostN
  exact List.filter_congr (fun c hc => by rw [h c (by simpa using hc)])
theorem mdS_lost (S : Tb) (C : Nat → List UInt8) (i r : Nat) (hr : r < S.R) (hi : i ≤ r) : lostL (mdS S C i) r = lostL S r :=
  lost_same (fun c hc => by rw [show (mdS S C i).R = S.R from rfl, mdS_is S C i r c hr hc, if_neg (fun e => by omega)])
theorem mdS_good (S : Tb) (C : Nat → List UInt8) (i r : Nat) (hr : r < S.R) (hG : RowOf S r (C r)) : RowOf (mdS S C i) r (C r) := by
  refine ⟨hG.len, hG.word, fun c hc hi => ?_⟩
  rw [show (mdS S C i).R = S.R from rfl] at hi ⊢
  rw [mdS_b S C i r c hr hc]
  rw [mdS_is S C i r c hr hc] at hi
  by_cases h : r < i ∧ okR S r = true
  · rw [if_pos h]
  · rw [if_neg h] at hi ⊢
    exact hG.same c hc hi
theorem mdS_fill (S : Tb) (C : Nat → List UInt8) (i : Nat) (hok : okR S i = true) : filN (mdS S C i) i (C i) 255 = mdS S C (i + 1) := by
  unfold filN
  show Tb.mk _ _ _ _ = Tb.mk _ _ _ _
  simp only [Tb.mk.injEq]
  refine ⟨rfl, funext fun p => ?_, funext fun p => ?_, rfl⟩
  · show (if p % S.R = i ∧ p / S.R < 255 then _ else (if p % S.R < i ∧ p / S.R < 255 ∧ okR S (p % S.R) = true then _ else _)) = (if p % S.R < i + 1 ∧ p / S.R < 255 ∧ okR S (p % S.R) = true then _ else _)
    by_cases h : p % S.R = i ∧ p / S.R < 255
    · rw [if_pos h, if_pos ⟨by omega, h.2, by rw [h.1]; exact hok⟩, h.1]
      rfl
    · rw [if_neg h]
      by_cases h2 : p % S.R < i ∧ p / S.R < 255 ∧ okR S (p % S.R) = true
      · rw [if_pos h2, if_pos ⟨by omega, h2.2⟩]
      · rw [if_neg h2, if_neg (fun e => h2 ⟨by have := e.1; have : p % S.R ≠ i := fun e2 => h ⟨e2, e.2.1⟩; omega, e.2⟩)]
  · show (if p % S.R = i ∧ p / S.R < 255 then _ else (if p % S.R < i ∧ p / S.R < 255 ∧ okR S (p % S.R) = true then _ else _)) = (if p % S.R < i + 1 ∧ p / S.R < 255 ∧ okR S (p % S.R) = true then _ else _)
    by_cases h : p % S.R = i ∧ p / S.R < 255
    · rw [if_pos h, if_pos ⟨by omega, h.2, by rw [h.1]; exact hok⟩]
    · rw [if_neg h]
      by_cases h2 : p % S.R < i ∧ p / S.R < 255 ∧ okR S (p % S.R) = true
      · rw [if_pos h2, if_pos ⟨by omega, h2.2⟩]
      · rw [if_neg h2, if_neg (fun e => h2 ⟨by have := e.1; have : p % S.R ≠ i := fun e2 => h ⟨e2, e.2.1⟩; omega, e.2⟩)]
theorem mdS_skip (S : Tb) (C : Nat → List UInt8) (i : Nat) (hok : okR S i = false) : mdS S C i = mdS S C (i + 1) := by
  have key : ∀ p, (p % S.R < i ∧ p / S.R < 255 ∧ okR S (p % S.R) = true) ↔ (p % S.R < i + 1 ∧ p / S.R < 255 ∧ okR S (p % S.R) = true) := fun p => by
    constructor
    · rintro ⟨h1, h2⟩
      exact ⟨by omega, h2⟩
    · rintro ⟨h1, h2, h3⟩
      refine ⟨?_, h2, h3⟩
      have : p % S.R ≠ i := fun e => by rw [e, hok] at h3; cases h3
      omega
  unfold mdS
  simp only [Tb.mk.injEq, true_and, and_true]
  exact ⟨funext fun p => by simp only [key p], funext fun p => by simp only [key p]⟩
set_option maxHeartbeats 1600000 in
theorem mend_any (w : World) (B gt gr : Nat) (v : Value) (S : Tb) (C : Nat → List UInt8) (h : TbIn w B gt gr v S) (hR : S.R ≤ 1024) (hC : ∀ r, r < S.R → RowOf S r (C r)) :
    Calls Tryz.prog 9 #[.pointer (some ⟨gt, 0, none⟩)] w fun e w' => e = .returned (.tuple #[.int .i64 (cntM S S.R : Nat), .int .i64 (cntF S S.R : Nat)]) ∧ TbIn w' B gt gr v (mdS S C S.R) ∧ Kept (· = gr) w w' := by
  have c0 := Blk.cell h.box 0 (v := .slice (some ⟨gr, 0, none⟩) S.R S.R) rfl
  obtain ⟨R, hRR⟩ : ∃ R, S.R = R := ⟨_, rfl⟩
  have HT := Lib.hid h
  have HC := Lib.hid hC
  have HR := Lib.hid hRR
  rw [hRR] at c0 hR
  clear h hC
  rw [hRR]
  clear hRR
  have r0 : (0 : Int) ≤ (R : Int) := Int.natCast_nonneg _
  have r1 : (R : Int) ≤ 1024 := by omega
  go_enter Tryz.func9, Tryz.ntmps9
  go_wp2_with fail
  go_loopw [2, 3, 13] (fun mv fv iv W => ∃ i : Nat, i ≤ R ∧ iv = .int .i64 i ∧ mv = .int .i64 (cntM S i : Nat) ∧ fv = .int .i64 (cntF S i : Nat) ∧ Hid (TbIn W B gt gr v (mdS S C i)) ∧ Kept (· = gr) w W) (fun _ _ iv _ => R - (intOf iv).toNat)
  case atStart => exact ⟨0, by omega, rfl, rfl, rfl, Lib.hid (by rw [mdS_zero]; exact HT.out), Kept.refl _ _⟩
  case round =>
    clear c0
    obtain ⟨i, hi, rfl, rfl, rfl, hT, hK⟩ := hrel
    have i0 : (0 : Int) ≤ (i : Int) := Int.natCast_nonneg _
    have HK := Lib.hid hK
    clear hK
    by_cases hin : i < R
    · have t0 : decide ((i : Int) < (R : Int)) = true := decide_eq_true (by omega)
      have t0' : decide (i < R) = true := decide_eq_true hin
      have i1 : (i : Int) < (R : Int) := by omega
      have c1 := Blk.cell hT.out.box 0 (v := .slice (some ⟨gr, 0, none⟩) S.R S.R) rfl
      rw [HR.out] at c1
      have kl := lost_any wr B gt gr i v (mdS S C i) hT.out (by rw [show (mdS S C i).R = S.R from rfl, HR.out]; exact hin)
      have hls := mdS_lost S C i i (by rw [HR.out]; exact hin) (Nat.le_refl _)
      rw [hls] at kl
      have HM := Lib.hid (cntM_step S i)
      have HF := Lib.hid (cntF_step S i)
      have hm1 : (cntM S i : Int) ≤ 1024 := by have := cntM_le S i; omega
      have hf1 : (cntF S i : Int) ≤ 1024 := by have := cntF_le S i; omega
      have hm0 : (0 : Int) ≤ (cntM S i : Int) := Int.natCast_nonneg _
      have hf0 : (0 : Int) ≤ (cntF S i : Int) := Int.natCast_nonneg _
      have hll : (lostL S i).length ≤ 255 := lostN_len S i 255
      have HOK := Lib.hid (show okR S i = decide (0 < (lostL S i).length ∧ (lostL S i).length ≤ 64) from rfl)
      have HBD := Lib.hid (show badR S i = decide (64 < (lostL S i).length) from rfl)
      obtain ⟨m, hm⟩ : ∃ m, cntM S i = m := ⟨_, rfl⟩
      obtain ⟨f, hf⟩ : ∃ f, cntF S i = f := ⟨_, rfl⟩
      obtain ⟨n, hn⟩ : ∃ n, (lostL S i).length = n := ⟨_, rfl⟩
      rw [hm] at hm1 hm0 HM ⊢
      rw [hf] at hf1 hf0 HF ⊢
      rw [hn] at kl hll HOK HBD
      have HLN := Lib.hid hls
      have HN := Lib.hid hn
      clear hm hf hn hls
      go_wp2_with fail
      (with_reducible refine (kl).mono ?_); rintro e1 W1 ⟨hb1, v1, rfl, hown⟩
      obtain ⟨oa, oc, rfl⟩ := own_form hown
      have hI := ints_own hown
      have hT1 := Lib.hid (hT.out.below hb1)
      have HK1 := Lib.hid (HK.out.then (hb1.mono HK.out.size))
      clear kl hT HK hb1 c1 hown
      by_cases h0 : n = 0
      · have t1 : ((n : Int) == 0) = true := by rw [h0]; rfl
        have hok : okR S i = false := by rw [HOK.out]; exact decide_eq_false (by omega)
        have hbd : badR S i = false := by rw [HBD.out]; exact decide_eq_false (by omega)
        rw [hok] at HM
        rw [hbd] at HF
        have HS := Lib.hid (mdS_skip S C i hok)
        clear hI h0 hok hbd
        go_wp2_with fail
        go_roundw
        case rel => exact ⟨i + 1, by omega, by go_num, by rw [HM.out]; rfl, by rw [HF.out]; rfl, by rw [← HS.out]; exact hT1, HK1.out⟩
        case measure => simp [intOf]; omega
      · have t1 : ((n : Int) == 0) = false := beq_eq_false_iff_ne.2 (by omega)
        have c2 := Blk.cell hT1.out.box 0 (v := .slice (some ⟨gr, 0, none⟩) S.R S.R) rfl
        rw [HR.out] at c2
        by_cases h64 : n ≤ 64
        · have km := mends_any W1 B gt gr i v (mdS S C i) oa oc n (C i) hT1.out (by rw [show (mdS S C i).R = S.R from rfl, HR.out]; exact hin) (mdS_good S C i i (by rw [HR.out]; exact hin) (HC.out i (by rw [HR.out]; exact hin))) (by rw [HLN.out]; exact HN.out) (by rw [HLN.out]; exact hI) (by omega) h64
          have hok : okR S i = true := by rw [HOK.out]; exact decide_eq_true (by omega)
          have hbd : badR S i = false := by rw [HBD.out]; exact decide_eq_false (by omega)
          rw [hok] at HM
          rw [hbd] at HF
          rw [mdS_fill S C i hok] at km
          clear hI h0 hok hbd h64
          go_wp2_with fail
          (with_reducible refine (km).mono ?_); rintro e2 W2 ⟨rfl, hT2, hK2⟩
          have H2 := Lib.hid hT2
          have HK2 := Lib.hid (HK1.out.trans hK2 (fun _ _ e => e))
          clear km hT2 hK2 hT1 HK1 c2
          go_wp2_with fail
          go_roundw
          case rel => exact ⟨i + 1, by omega, by go_num, by rw [HM.out]; go_num, by rw [HF.out]; rfl, H2, HK2.out⟩
          case measure => simp [intOf]; omega
        · have km := mends_no W1 (.pointer (some ⟨gr, i * 510, none⟩)) oa oc n (by omega)
          have hok : okR S i = false := by rw [HOK.out]; exact decide_eq_false (by omega)
          have hbd : badR S i = true := by rw [HBD.out]; exact decide_eq_true (by omega)
          rw [hok] at HM
          rw [hbd] at HF
          have HS := Lib.hid (mdS_skip S C i hok)
          clear hI h0 hok hbd h64
          go_wp2_with fail
          (with_reducible refine (km).mono ?_); rintro e2 W2 ⟨rfl, rfl⟩
          clear km c2
          go_wp2_with fail
          go_roundw
          case rel => exact ⟨i + 1, by omega, by go_num, by rw [HM.out]; rfl, by rw [HF.out]; go_num, by rw [← HS.out]; exact hT1, HK1.out⟩
          case measure => simp [intOf]; omega
    · obtain rfl : i = R := by omega
      have t0 : decide ((i : Int) < (i : Int)) = false := decide_eq_false (by omega)
      have t0' : decide (i < i) = false := decide_eq_false (by omega)
      go_wp2_with fail
      go_ret2
      exact ⟨rfl, hT.out, HK.out⟩
end Go.Proofs.YtlocgilgdnhnlaaGreatDoor.TbW
