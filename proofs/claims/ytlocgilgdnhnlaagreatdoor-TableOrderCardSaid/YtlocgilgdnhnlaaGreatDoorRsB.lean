/- rs, walked: Syndromes, Is, Word. -/
import Derived.Test.YtlocgilgdnhnlaaGreatDoorRsA
namespace Go.Proofs.YtlocgilgdnhnlaaGreatDoor.RsB
open Go Go.RowKit Go.Proofs.YtlocgilgdnhnlaaGreatDoor.Q Go.Proofs.YtlocgilgdnhnlaaGreatDoor.Mem Go.Proofs.YtlocgilgdnhnlaaGreatDoor.Rg Go.Proofs.YtlocgilgdnhnlaaGreatDoor.Ap Go.Proofs.YtlocgilgdnhnlaaGreatDoor.St Go.Proofs.YtlocgilgdnhnlaaGreatDoor.BiW Go.Proofs.YtlocgilgdnhnlaaGreatDoor.BiG Go.Proofs.YtlocgilgdnhnlaaGreatDoor.CrB Go.Proofs.YtlocgilgdnhnlaaGreatDoor.SeEq Go.Proofs.YtlocgilgdnhnlaaGreatDoor.TbM Go.Proofs.YtlocgilgdnhnlaaGreatDoor.GfP Go.Proofs.YtlocgilgdnhnlaaGreatDoor.PoP Go.Proofs.YtlocgilgdnhnlaaGreatDoor.RsP Go.Proofs.YtlocgilgdnhnlaaGreatDoor.GfA Go.Proofs.YtlocgilgdnhnlaaGreatDoor.PoA

set_option maxRecDepth 100000
/-- the syndromes -/
def synL (l : List UInt8) : List UInt8 := (List.range 64).map fun j => hr l (ex j)
/-- behind i of them, and k bytes of the next one -/
def synI (l : List UInt8) (i k n : Nat) : UInt8 := if n < i then hr l (ex n) else if n = i then hr (l.take k) (ex n) else 0
theorem synI_step {l : List UInt8} {k : Nat} {b : UInt8} (h : l[k]? = some b) (i n : Nat) : (if n = i then u8v (gm (synI l i k i) (ex i) ^^^ b) else u8v (synI l i k n)) = u8v (synI l i (k + 1) n) := by
  by_cases e : n = i
  · subst e
    rw [if_pos rfl]
    unfold synI
    rw [if_neg (by omega), if_pos rfl, if_neg (by omega), if_pos rfl, List.take_add_one, h, Option.toList_some, hr_snoc]
  · rw [if_neg e]
    unfold synI
    by_cases h2 : n < i
    · rw [if_pos h2, if_pos h2]
    · rw [if_neg h2, if_neg h2, if_neg e, if_neg e]
theorem synI_next (l : List UInt8) (i n : Nat) : synI l i l.length n = synI l (i + 1) 0 n := by
  unfold synI
  rw [List.take_length, List.take_zero]
  by_cases h : n < i
  · rw [if_pos h, if_pos (by omega)]
  · rw [if_neg h]
    by_cases e : n = i
    · rw [if_pos e, if_pos (by omega)]
    · rw [if_neg e, if_neg (by omega)]
      split <;> rfl
set_option maxHeartbeats 3200000 in
theorem synd_any (s : ByteArray) (w : World) (hs : s.size = 255) : Calls Tryz.prog 71 #[.string s] w fun e w' => e = .returned (.tuple #[.string (str (synL (bl s))), .int .i64 0]) ∧ Below w.heap.size w w' := by
  have kn := GfA.new_any w
  have t0 : ((s.size : Int) == 255) = true := by rw [hs]; rfl
  have t0' : ((s.size : Int) != 255) = false := by rw [hs]; rfl
  have HS := Lib.hid hs
  have hmk := mk_bytes 64 (by decide)
  have s0 : (s.size : Int) ≤ 255 := by omega
  clear hs
  go_enter Tryz.func71, Tryz.ntmps71
  go_wp2_with fail
  (with_reducible refine (kn).mono ?_); rintro e1 W1 ⟨rfl, hF1, hb1⟩
  obtain ⟨g, hg⟩ : ∃ g, w.heap.size = g := ⟨_, rfl⟩
  rw [hg] at hF1 hb1 ⊢
  obtain ⟨g2, hg2⟩ : ∃ g2, W1.heap.size = g2 := ⟨_, rfl⟩
  have hlt := hF1.lt
  rw [hg2] at hlt
  have hF2 : Fld (W1.alloc (.cells (rowB [] 64) 5)) g := Fm.alloc hF1 _
  have hO2 := (fm_zero W1 64 g2 hg2.symm).congr (f' := fun n => u8v (synI (bl s) 0 0 n)) (fun i _ => by
    unfold synI
    rw [if_neg (by omega)]
    split <;> rfl)
  have hb2 := hb1.alloc (by omega) (.cells (rowB [] 64) 5)
  have hm2 : (Instr.makeSlice 87 (.int .i64 64) (.int .i64 64)).run Tryz.prog W1 = .ok (.slice (some ⟨W1.heap.size, 0, none⟩) 64 64) (W1.alloc (.cells (rowB [] 64) 5)) := hmk W1
  rw [hg2] at hm2
  clear kn hmk hF1 hb1
  go_wp2_with fail
  go_loopw [16] (fun iv W => ∃ i : Nat, i ≤ 64 ∧ iv = .int .i64 i ∧ Fld W g ∧ Fm W g2 5 64 (fun n => u8v (synI (bl s) i 0 n)) ∧ Below g w W) (fun iv _ => 64 - (intOf iv).toNat)
  case atStart => exact ⟨0, by omega, rfl, hF2, hO2, hb2⟩
  case round =>
    clear hF2 hO2 hb2 hm2
    obtain ⟨i, hi, rfl, hF, hO, hb⟩ := hrel
    have i0 : (0 : Int) ≤ (i : Int) := Int.natCast_nonneg _
    by_cases hin : i < 64
    · have t1 : decide ((i : Int) < 64) = true := decide_eq_true (by omega)
      have kx := exp_any wr g i hF (by omega)
      have i1 : (i : Int) < 64 := by omega
      go_wp2_with fail
      (with_reducible refine (kx).mono ?_); rintro e2 W2 ⟨rfl, rfl⟩
      clear kx
      go_wp2_with fail
      go_loopw [24] (fun kv W => ∃ k : Nat, k ≤ s.size ∧ kv = .int .i64 k ∧ Fld W g ∧ Fm W g2 5 64 (fun n => u8v (synI (bl s) i k n)) ∧ Below g w W) (fun kv _ => s.size - (intOf kv).toNat)
      case atStart => exact ⟨0, by omega, rfl, hF, hO, hb⟩
      case round =>
        clear hF hO hb
        obtain ⟨k, hk, rfl, hF, hO, hb⟩ := hrel
        have k0 : (0 : Int) ≤ (k : Int) := Int.natCast_nonneg _
        by_cases hkn : k < s.size
        · have t2 : decide ((k : Int) < (s.size : Int)) = true := decide_eq_true (by omega)
          have t2' : decide (k < s.size) = true := decide_eq_true hkn
          obtain ⟨y, hy⟩ : ∃ y, (bl s)[k]? = some y := ⟨_, List.getElem?_eq_getElem (by rw [bl_len]; exact hkn)⟩
          have iy := ix_of hy
          have HM := Lib.hid (synI_step hy i)
          have c0 := fun p => (Fm.ext hO p).cell i (by omega)
          have c1 := fun p => (Fm.ext hO p).frozen i
          obtain ⟨m, hm⟩ : ∃ m, synI (bl s) i k i = m := ⟨_, rfl⟩
          rw [hm, u8v] at c0
          rw [hm] at HM
          obtain ⟨x, hx⟩ : ∃ x, ex i = x := ⟨_, rfl⟩
          rw [hx] at HM ⊢
          have qm := xor_g (gm m x) y
          have k1 : (k : Int) < (s.size : Int) := by omega
          clear hm hy hx
          go_wp2_with fail
          refine Go.Proofs.YtlocgilgdnhnlaaGreatDoor.Rg.region_new [(8, val (.int .u8 ((gm m x).toNat : Int)))] 14 (by kernel_rfl) (by kernel_rfl) (by kernel_rfl) (lk_cons val_inh lk_nil) (lk_cons val_mono lk_nil) ?_
          intro σ hσ
          simp only [List.take_succ_cons, List.take_zero, List.drop_succ_cons, List.drop_zero]
          have hs8 : σ 8 = .int .u8 ((gm m x).toNat : Int) := hσ 8 _ rfl
          refine Go.Proofs.YtlocgilgdnhnlaaGreatDoor.Rg.wpN_take 8 (by kernel_rfl) (by kernel_rfl) (by kernel_rfl) ?_
          simp only [List.take_succ_cons, List.take_zero, List.drop_succ_cons, List.drop_zero]
          repeat (go_big_quiet_step (fail))
          refine wpQuiet_nil ?_
          refine wpN_sp _ rfl (by kernel_rfl) (spAt_val (f := 66) (args := #[.pointer (some ⟨g, 0, none⟩), .int .u8 (m.toNat : Int), .int .u8 (x.toNat : Int)]) (by intro w0; go_simp) (fun p _ => GfA.mul_any _ g m x (Fm.ext hF p))) ?_
          simp only [Act.put, List.setIfInBounds_toArray, List.set_cons_zero, List.set_cons_succ]
          rw [hs8]
          refine Go.Proofs.YtlocgilgdnhnlaaGreatDoor.Rg.wpN_take 5 (by kernel_rfl) (by kernel_rfl) (by kernel_rfl) ?_
          simp only [List.take_succ_cons, List.take_zero, List.drop_succ_cons, List.drop_zero]
          repeat (go_big_quiet_step (fail))
          refine wpQuiet_nil ?_
          refine wpN_nil ?_
          rintro w9 ⟨pq, rfl⟩ _
          have d0 := c0 pq
          have d1 := c1 pq
          have hF9 : Fld ((ext wr pq).setCell ⟨g2, i, none⟩ (.int .u8 ((gm m x ^^^ y).toNat : Int))) g := Fm.far (Fm.ext hF pq) (by show g ≠ g2; omega) _
          have hO9 := ((Fm.ext hO pq).put i (.int .u8 ((gm m x ^^^ y).toNat : Int))).congr (f' := fun n => u8v (synI (bl s) i (k + 1) n)) (fun n _ => by
            rw [← HM.out]
            split <;> rfl)
          have hb9 : Below g w ((ext wr pq).setCell ⟨g2, i, none⟩ (.int .u8 ((gm m x ^^^ y).toNat : Int))) := (hb.trans ((below_ext wr pq).mono (by have := hF.lt; omega))).setCell (by show g ≤ g2; omega) _
          have H9 := Lib.hid (And.intro hF9 (And.intro hO9 hb9))
          clear hF hO hb hF9 hO9 hb9 c0 c1 hσ hs8
          go_wp2_with fail
          go_roundw
          case rel => exact ⟨k + 1, by omega, by go_num, H9.out.1, H9.out.2.1, H9.out.2.2⟩
          case measure => simp [intOf]; omega
        · obtain rfl : k = s.size := by omega
          have t2 : decide ((s.size : Int) < (s.size : Int)) = false := decide_eq_false (by omega)
          have t2' : decide (s.size < s.size) = false := decide_eq_false (by omega)
          go_wp2_with fail
          go_roundw
          case rel => exact ⟨i + 1, by omega, by go_num, hF, hO.congr (fun n _ => by rw [← synI_next, bl_len]), hb⟩
          case measure => simp [intOf]; omega
    · obtain rfl : i = 64 := by omega
      have t1 : decide (((64 : Nat) : Int) < 64) = false := by decide
      have hO9 := hO.congr (f' := fun n => u8v (hr (bl s) (ex n))) (fun n hn => by unfold synI; rw [if_pos hn])
      have kc := conv_fm hO9 64
      rw [show (List.range 64).map (fun n => hr (bl s) (ex n)) = synL (bl s) from rfl] at kc
      obtain ⟨q, hq⟩ : ∃ q, str (synL (bl s)) = q := ⟨_, rfl⟩
      have HQ := Lib.hid hq
      rw [hq] at kc
      clear hq hO hO9 hF
      go_wp2_with fail
      go_ret2
      exact ⟨by rw [HQ.out]; rfl, by rw [hg]; exact hb⟩
/-- is it a word? -/
def isW (l : List UInt8) : Bool := (trimL (synL l)).isEmpty
theorem isW_iff (l : List UInt8) : isW l = true ↔ ∀ j, j < 64 → hr l (ex j) = 0 := by
  have hf : ∀ j, fa (synL l) j = if j < 64 then hr l (ex j) else 0 := fun j => by
    by_cases h : j < 64
    · rw [if_pos h]; exact fa_in (by simp [synL, h])
    · rw [if_neg h]; exact fa_out (by simp [synL]; omega)
  constructor
  · intro h j hj
    have h0 : trimL (synL l) = [] := by unfold isW at h; simpa using h
    have := hf j
    rw [if_pos hj, ← fa_trim, h0] at this
    exact this.symm
  · intro h
    unfold isW
    rw [trim_zeros (fun j => by rw [hf j]; split; exact h j (by assumption); rfl)]
    rfl
theorem is_any (s : ByteArray) (w : World) (hs : s.size = 255) : Calls Tryz.prog 77 #[.string s] w fun e w' => e = .returned (.bool (isW (bl s))) ∧ Below w.heap.size w w' := by
  have ks := synd_any s w hs
  have kt := fun V => trim_any (str (synL (bl s))) V (by rw [str_size]; simp [synL])
  rw [bl_str] at kt
  have hE : (str (trimL (synL (bl s)))).toList.isEmpty = isW (bl s) := by
    rw [isEmpty_iff, str_size]
    unfold isW
    cases trimL (synL (bl s)) <;> simp
  obtain ⟨q, hq⟩ : ∃ q, str (synL (bl s)) = q := ⟨_, rfl⟩
  obtain ⟨r, hr9⟩ : ∃ r, str (trimL (synL (bl s))) = r := ⟨_, rfl⟩
  rw [hq] at ks kt
  rw [hr9] at kt hE
  clear hq hr9 hs
  go_enter Tryz.func77, Tryz.ntmps77
  go_wp2_with fail
  (with_reducible refine (ks).mono ?_); rintro e1 W1 ⟨rfl, hb1⟩
  clear ks
  go_wp2_with fail
  (with_reducible refine (kt _).mono ?_); rintro e2 W2 ⟨rfl, rfl⟩
  clear kt
  go_wp2_with fail
  go_ret
  exact ⟨rfl, hb1⟩
theorem word_any (d : ByteArray) (w : World) (hd : d.size = 191) : Calls Tryz.prog 59 #[.string d] w fun e w' => e = .returned (.tuple #[.string (str (bl d ++ enc (bl d))), .int .i64 0]) ∧ Below w.heap.size w w' := by
  have ke := RsA.encode_any d w hd
  have ha := add_at d (str (enc (bl d))) (by rw [str_size, enc_len, hd]; decide)
  rw [show d ++ str (enc (bl d)) = str (bl d ++ enc (bl d)) by rw [← str_app, str_bl]] at ha
  obtain ⟨q, hq⟩ : ∃ q, str (enc (bl d)) = q := ⟨_, rfl⟩
  rw [hq] at ke ha
  obtain ⟨r, hr9⟩ : ∃ r, str (bl d ++ enc (bl d)) = r := ⟨_, rfl⟩
  rw [hr9] at ha ⊢
  clear hq hr9 hd
  go_enter Tryz.func59, Tryz.ntmps59
  go_wp2_with fail
  (with_reducible refine (ke).mono ?_); rintro e1 W1 ⟨rfl, hb1⟩
  clear ke
  go_wp2_with fail
  go_ret2
  exact ⟨rfl, hb1⟩
end Go.Proofs.YtlocgilgdnhnlaaGreatDoor.RsB
