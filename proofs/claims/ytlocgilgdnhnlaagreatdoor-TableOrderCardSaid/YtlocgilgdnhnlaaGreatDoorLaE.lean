/- The chapter's example: awake. -/
import Derived.Test.YtlocgilgdnhnlaaGreatDoorLaB
namespace Go.Proofs.YtlocgilgdnhnlaaGreatDoor.LaE
open Go Go.RowKit Go.Proofs.YtlocgilgdnhnlaaGreatDoor.Q Go.Proofs.YtlocgilgdnhnlaaGreatDoor.Mem Go.Proofs.YtlocgilgdnhnlaaGreatDoor.Rg Go.Proofs.YtlocgilgdnhnlaaGreatDoor.Ap Go.Proofs.YtlocgilgdnhnlaaGreatDoor.ApG Go.Proofs.YtlocgilgdnhnlaaGreatDoor.St Go.Proofs.YtlocgilgdnhnlaaGreatDoor.BiW Go.Proofs.YtlocgilgdnhnlaaGreatDoor.CrB Go.Proofs.YtlocgilgdnhnlaaGreatDoor.Tab Go.Proofs.YtlocgilgdnhnlaaGreatDoor.DgB Go.Proofs.YtlocgilgdnhnlaaGreatDoor.DgC Go.Proofs.YtlocgilgdnhnlaaGreatDoor.TlS Go.Proofs.YtlocgilgdnhnlaaGreatDoor.TbM Go.Proofs.YtlocgilgdnhnlaaGreatDoor.TbO Go.Proofs.YtlocgilgdnhnlaaGreatDoor.TbP Go.Proofs.YtlocgilgdnhnlaaGreatDoor.TbQ Go.Proofs.YtlocgilgdnhnlaaGreatDoor.TbR Go.Proofs.YtlocgilgdnhnlaaGreatDoor.TbS Go.Proofs.YtlocgilgdnhnlaaGreatDoor.TbT Go.Proofs.YtlocgilgdnhnlaaGreatDoor.TbU Go.Proofs.YtlocgilgdnhnlaaGreatDoor.RtM Go.Proofs.YtlocgilgdnhnlaaGreatDoor.LaA Go.Proofs.YtlocgilgdnhnlaaGreatDoor.LaB

set_option maxRecDepth 100000
def exS (X : ByteArray) : Tb := padS (putS (emptyT 256) 0 X) 189
def isE (p : Nat) : Bool := (decide (512 ≤ p) && decide (p < 48896)) || decide (p < 300)
theorem ex_putE {X : ByteArray} (h : X.size = 300) : putE 256 0 X = 0 := by unfold putE; rw [h]; decide
theorem ex_put {X : ByteArray} (h : X.size = 300) : putS (emptyT 256) 0 X = { laid (emptyT 256) 0 X 300 with st := [0] } := by
  unfold putS
  rw [if_neg (by rw [show (emptyT 256).R = 256 from rfl, ex_putE h, h]; decide), h]
  rfl
theorem ex_S {X : ByteArray} (h : X.size = 300) : (exS X).R = 256 ∧ (exS X).st = [0] ∧ (exS X).is = isE ∧ ∀ i, i < 300 → (exS X).b i = sb X i := by
  unfold exS
  rw [ex_put h]
  unfold padS
  rw [if_neg (by decide)]
  refine ⟨rfl, rfl, ?_, fun i hi => ?_⟩
  · funext p
    show (if (191 - 189) * 256 ≤ p ∧ p < 191 * 256 then true else if 0 ≤ p ∧ p < 0 + 300 then true else false) = isE p
    unfold isE
    by_cases h1 : 512 ≤ p ∧ p < 48896
    · rw [if_pos (by omega)]; simp [h1.1, h1.2]
    · rw [if_neg (by omega)]
      by_cases h2 : p < 300
      · rw [if_pos (by omega)]; simp [h2]
      · rw [if_neg (by omega)]
        simp [h2]
        omega
  · show (if 0 ≤ i ∧ i < 0 + 300 then sb X (i - 0) else 0) = sb X i
    rw [if_pos (by omega)]; rfl
theorem ex_lost {X : ByteArray} (h : X.size = 300) : (lostL (exS X) 0).length = 64 ∧ (lostL (exS X) 44).length = 65 := by
  obtain ⟨h1, _, h3, _⟩ := ex_S h
  unfold lostL lostN
  rw [h1, h3]
  exact ⟨by decide +kernel, by decide +kernel⟩
theorem kn_eq (S : Tb) : ∀ (k f p : Nat), k < f → (∀ i, i < k → atI S ((p + i : Nat) : Int) = true) → atI S ((p + k : Nat) : Int) = false → kn S p f = k
  | k, 0, p, h, _, _ => by omega
  | 0, f + 1, p, _, _, h => by rw [kn]; rw [Nat.add_zero] at h; rw [h]; rfl
  | k + 1, f + 1, p, hk, h1, h2 => by
    rw [kn]
    have h0 := h1 0 (by omega)
    rw [Nat.add_zero] at h0
    rw [h0, if_pos rfl, kn_eq S k f (p + 1) (by omega) (fun i hi => by rw [show p + 1 + i = p + (i + 1) by omega]; exact h1 (i + 1) (by omega)) (by rw [show p + 1 + k = p + (k + 1) by omega]; exact h2)]
theorem atI_nat' (S : Tb) (q : Nat) : atI S q = (decide (q < 191 * S.R) && S.is q) := by
  unfold atI
  by_cases h : q < 191 * S.R
  · rw [if_pos (by omega), decide_eq_true h, Int.toNat_natCast]; rfl
  · rw [if_neg (by omega), decide_eq_false h]; rfl
theorem ex_at {X : ByteArray} (h : X.size = 300) (q : Nat) : atI (exS X) (q : Int) = (decide (q < 48896) && isE q) := by
  obtain ⟨h1, _, h3, _⟩ := ex_S h
  rw [atI_nat', h1, h3]
theorem ex_text {X : ByteArray} (h : X.size = 300) : str (bytesL (exS X) 0 300) = X := by
  refine bl_inj ?_
  rw [bl_str]
  have hl : (bl X).length = 300 := by rw [bl_len, h]
  apply List.ext_getElem (by rw [bytesL_len, hl])
  intro i h1 h2
  rw [bytesL_len] at h1
  simp only [bytesL, List.getElem_map, List.getElem_range, Nat.zero_add]
  rw [(ex_S h).2.2.2 i h1]
  unfold sb bl
  have hd : i < X.data.size := by have : X.size = X.data.size := rfl; omega
  rw [Array.getElem?_eq_getElem hd, Option.getD_some]
  exact (Array.getElem_toList hd).symm
theorem ex_kn {X : ByteArray} (h : X.size = 300) : knS (exS X) 0 = X := by
  have : kn (exS X) 0 4080 = 300 := kn_eq _ 300 4080 0 (by decide) (fun i hi => by rw [ex_at h]; unfold isE; simp; omega) (by rw [ex_at h]; rfl)
  unfold knS
  rw [this, ex_text h]
theorem fs_whole {X : ByteArray} (h : dgE X = 0) : fsN X = X.size := by
  have hp : pkE X = 0 := by
    unfold dgE at h
    split at h
    · rename_i h1; exact absurd h h1
    · rename_i h1; simpa using h1
  have hl : (pkH X).length = X.size := by
    unfold dgE at h
    rw [if_neg (by simpa using hp)] at h
    split at h
    · cases h
    · split at h
      · cases h
      · omega
  have hx : X.extract 0 X.size = X := by
    refine bl_inj ?_
    rw [ext_bl, List.drop_zero, Nat.sub_zero, List.take_of_length_le (by rw [bl_len]; omega)]
  unfold fsN
  rw [hl, Int.toNat_natCast, hx, if_pos ⟨hp, Int.le_refl _, h⟩]
theorem ex_ok {X : ByteArray} : Ok (exS X) := (pad_ok (put_ok (empty_ok (by decide) (by decide)) (by decide) 0 X).1 189).1
theorem ex_out {X : ByteArray} (h : X.size = 300) (hd : dgE X = 0) : outAt (exS X) 0 = [(0, 300)] := by
  have h1 : dN (exS X) 0 = 300 := by unfold dN; rw [ex_kn h, fs_whole hd, h]
  have hR := (ex_S h).1
  rw [outAt_yes ex_ok (by omega) (by rw [h1]; decide), h1]
  congr 1
  have h2 : kn (exS X) 300 4080 = 0 := kn_eq _ 0 4080 300 (by decide) (fun i hi => by omega) (by rw [ex_at h]; rfl)
  have h3 : dN (exS X) 300 = 0 := by
    have := fsN_le (knS (exS X) 300)
    rw [kn_size, h2] at this
    unfold dN; omega
  exact outAt_end (by rw [hR]; decide) (by rw [h3]; decide) (by unfold nxt; rw [(ex_S h).2.1]; rfl)
set_option maxHeartbeats 3200000 in
theorem awake_any (w : World) (hT : Tab 0 w) : Calls Tryz.prog 6 #[] w fun e w' => e = .returned (.bool true) ∧ Below w.heap.size w w' := by
  have kn := new_any 256 w hT
  simp only [show isSz 256 = true from rfl, if_true] at kn
  have km : ∀ V, Calls Tryz.prog 20 #[.int .i64 280, .int .u8 1] V fun e w' => e = .returned (.string (madeD 280 1)) ∧ Below V.heap.size V w' := fun V => made_any 280 1 V (by decide)
  have hsz : (madeD 280 1).size = 300 := (made_ok 280 1).2
  have hdg := (made_ok 280 1).1
  obtain ⟨X, hX⟩ : ∃ X, madeD 280 1 = X := ⟨_, rfl⟩
  rw [hX] at km hsz hdg
  have HP := Lib.hid (And.intro hsz hdg)
  have hxb : X.size ≤ 1099511627776 := by omega
  clear hX hsz hdg
  go_enter Tryz.func6, Tryz.ntmps6
  go_wp2_with fail
  (with_reducible refine (kn).mono ?_); rintro e1 W1 ⟨hb1, R, gt, gr, hRR, _, _, rfl, ht1⟩
  obtain rfl : R = 256 := by omega
  clear kn hRR
  go_wp2_with fail
  (with_reducible refine (km _).mono ?_); rintro e2 W2 ⟨rfl, hb2⟩
  have ht2 := ht1.below hb2
  have hbA := hb1.trans (hb2.mono hb1.size)
  have kp := put_any W2 w.heap.size gt gr _ _ 0 X ht2 (empty_ok (by decide) (by decide)) hxb
  rw [show (emptyT 256).R = 256 from rfl, ex_putE HP.out.1] at kp
  clear ht1 hb1 hb2
  go_wp2_with fail
  (with_reducible refine (kp).mono ?_); rintro e3 W3 ⟨v3, rfl, ht3, hf3, hk3⟩
  have hbB := hbA.trans (hk3.be hbA.size (fun i hi => (ht2.ge i hi).1))
  have kd := pad_any W3 w.heap.size gt gr v3 _ 189 ht3 (put_ok (empty_ok (by decide) (by decide)) (by decide) 0 X).1
  rw [show padE 189 = 0 from rfl] at kd
  clear kp hf3 hk3 hbA ht2
  go_wp2_with fail
  (with_reducible refine (kd).mono ?_); rintro e4 W4 ⟨rfl, ht4, hk4⟩
  have hbC := hbB.trans (hk4.be hbB.size (fun i hi => (ht3.ge i hi).1))
  rw [show padS (putS (emptyT 256) 0 X) 189 = exS X from rfl] at ht4
  have kl := Lost_any W4 w.heap.size gt gr 0 v3 (exS X) ht4
  rw [(ex_S HP.out.1).1, if_pos (by decide), if_pos (by decide), show (0 : Int).toNat = 0 from rfl, (ex_lost HP.out.1).1] at kl
  clear kd hk4 hbB ht3
  go_wp2_with fail
  (with_reducible refine (kl).mono ?_); rintro e5 W5 ⟨hb5, rfl⟩
  have ht5 := ht4.below hb5
  have hbD := hbC.trans (hb5.mono hbC.size)
  have kl2 := Lost_any W5 w.heap.size gt gr 44 v3 (exS X) ht5
  rw [(ex_S HP.out.1).1, if_pos (by decide), if_pos (by decide), show (44 : Int).toNat = 44 from rfl, (ex_lost HP.out.1).2] at kl2
  clear kl hb5 hbC ht4
  go_wp2_with fail
  (with_reducible refine (kl2).mono ?_); rintro e6 W6 ⟨hb6, rfl⟩
  have ht6 := ht5.below hb6
  have hbE := hbD.trans (hb6.mono hbD.size)
  have ko := out_any W6 w.heap.size gt gr v3 (exS X) ht6 ex_ok
  rw [ex_out HP.out.1 HP.out.2] at ko
  clear kl2 hb6 hbD ht5
  go_wp2_with fail
  (with_reducible refine (ko).mono ?_); rintro e7 W7 ⟨hb7, vo, rfl, hown⟩
  have hbF := hbE.trans (hb7.mono hbE.size)
  obtain ⟨ao, co, rfl⟩ := own_form hown
  have hs := own_seq (en := enPl (exS X)) (sz := 2) (fun _ => rfl) hown rfl
  obtain ⟨b0, o0, rfl, l0, hc0⟩ := hs 0 (0, 300) rfl
  have y1 := hc0 1 _ rfl
  rw [off_eq] at y1
  dsimp only at y1
  rw [ex_text HP.out.1] at y1
  have f1 := fun q => cell_ext l0 y1 q
  have t3 : (X.toList == X.toList) = true := beq_self_eq_true _
  clear ko hb7 hbE ht6 hown hs hc0 y1
  go_wp2_with fail
  refine Go.Proofs.YtlocgilgdnhnlaaGreatDoor.Q.region_ext (by kernel_rfl) (by kernel_rfl) ?_
  repeat (go_big_quiet_step ((go_at_call 20; refine ext_call (km _))))
  refine wpQuiet_nil ?_
  rintro w9 ⟨pq, rfl⟩
  have hbG := hbF.trans ((below_ext W7 pq).mono hbF.size)
  go_wp2_with fail
  go_ret
  exact ⟨rfl, hbG⟩
end Go.Proofs.YtlocgilgdnhnlaaGreatDoor.LaE
