/- frame: Add, Placed. -/
import Derived.Test.YtlocgilgdnhnlaaGreatDoorFrA
import Derived.Test.YtlocgilgdnhnlaaGreatDoorTbP
import Derived.Lib.LazyBuf
namespace Go.Proofs.YtlocgilgdnhnlaaGreatDoor.FrB
open Go Go.RowKit Go.Proofs.YtlocgilgdnhnlaaGreatDoor.Q Go.Proofs.YtlocgilgdnhnlaaGreatDoor.Mem Go.Proofs.YtlocgilgdnhnlaaGreatDoor.Rg Go.Proofs.YtlocgilgdnhnlaaGreatDoor.Ap Go.Proofs.YtlocgilgdnhnlaaGreatDoor.ApG Go.Proofs.YtlocgilgdnhnlaaGreatDoor.St Go.Proofs.YtlocgilgdnhnlaaGreatDoor.BiW Go.Proofs.YtlocgilgdnhnlaaGreatDoor.Tab Go.Proofs.YtlocgilgdnhnlaaGreatDoor.TlS Go.Proofs.YtlocgilgdnhnlaaGreatDoor.Fl Go.Proofs.YtlocgilgdnhnlaaGreatDoor.DgC Go.Proofs.YtlocgilgdnhnlaaGreatDoor.TbM Go.Proofs.YtlocgilgdnhnlaaGreatDoor.TbN Go.Proofs.YtlocgilgdnhnlaaGreatDoor.TbP Go.Proofs.YtlocgilgdnhnlaaGreatDoor.FrA

set_option maxRecDepth 100000
theorem elemPd : Elem Tryz.prog 38 43 2 24 := elem_of Tryz.underlying38 (z := .agg #[.int .i64 0, .string ByteArray.empty]) (by kernel_rfl) rfl (by decide)
/-- what is asked of a frame -/
structure OkF (S : Fr) : Prop where
  R : S.R ≤ 1024
  R0 : 0 < S.R
  C : S.C ≤ 191
  u : S.used ≤ S.R * S.C
  n : S.L.length ≤ S.used
/-- k bytes of a datagram are laid -/
def laidF (S : Fr) (d : ByteArray) (k : Nat) : Fr := { S with D := fun r c => if S.used ≤ c * S.R + r ∧ c * S.R + r < S.used + k then sb d (c * S.R + r - S.used) else S.D r c }
theorem laidF_zero (S : Fr) (d : ByteArray) : laidF S d 0 = S := by
  unfold laidF
  have h : ∀ r c, ¬ (S.used ≤ c * S.R + r ∧ c * S.R + r < S.used + 0) := fun r c => by omega
  simp only [h, if_false]
theorem laidF_step (S : Fr) (d : ByteArray) (k j : Nat) (hp : S.used + k < 255 * S.R) (hj : j < S.R * 255) :
    (if j = (S.used + k) % S.R * 255 + (S.used + k) / S.R then Value.int .u8 ((sb d k).toNat : Int) else frF (laidF S d k) j) = frF (laidF S d (k + 1)) j := by
  obtain ⟨h1, h2, h3⟩ := div_lt hp
  obtain ⟨r, hr⟩ : ∃ r, (S.used + k) % S.R = r := ⟨_, rfl⟩
  obtain ⟨c, hc⟩ : ∃ c, (S.used + k) / S.R = c := ⟨_, rfl⟩
  rw [hr] at h1 h3 ⊢
  rw [hc] at h2 h3 ⊢
  clear hr hc
  have hq : j / 255 < S.R := (Nat.div_lt_iff_lt_mul (by decide)).2 hj
  unfold frF laidF
  dsimp only
  by_cases e : j = r * 255 + c
  · have e1 : j % 255 = c := by omega
    have e2 : j / 255 = r := by omega
    rw [if_pos e, e1, e2, h3, if_pos (by omega), Nat.add_sub_cancel_left]
    rfl
  · rw [if_neg e]
    congr 1
    have hne : j % 255 * S.R + j / 255 ≠ S.used + k := fun h => by
      obtain ⟨h4, h5⟩ := split_eq hq h1 (h.trans h3.symm)
      omega
    by_cases h4 : S.used ≤ j % 255 * S.R + j / 255 ∧ j % 255 * S.R + j / 255 < S.used + k
    · rw [if_pos h4, if_pos (by omega)]
    · rw [if_neg h4, if_neg (by omega)]
def addE (S : Fr) (d : ByteArray) : Int := if dgE d ≠ 0 then dgE d else if S.R * S.C < S.used + d.size then 17 else 0
def addS (S : Fr) (d : ByteArray) : Fr := if addE S d ≠ 0 then S else { laidF S d d.size with L := S.L ++ [(S.used, d)], used := S.used + d.size, old := true }
theorem dg_size {d : ByteArray} (h : dgE d = 0) : 20 ≤ d.size ∧ d.size ≤ 4080 := by
  unfold dgE at h
  split at h
  · rename_i h1; exact absurd h h1
  · rename_i h1
    have hp := pk_ok (by simpa using h1)
    split at h
    · omega
    split at h
    · omega
    · omega
theorem add_ok {S : Fr} (h : OkF S) (d : ByteArray) : OkF (addS S d) := by
  unfold addS
  split
  · exact h
  · rename_i h1
    have h1 : addE S d = 0 := by simpa using h1
    unfold addE at h1
    split at h1
    · rename_i h2; exact absurd h1 h2
    split at h1
    · omega
    · rename_i h2 h3
      have hd := dg_size (by simpa using h2)
      exact ⟨h.R, h.R0, h.C, by show S.used + d.size ≤ S.R * S.C; omega, by have := h.n; show (S.L ++ [(S.used, d)]).length ≤ S.used + d.size; simp; omega⟩
theorem fr_rows {w w' : World} {B gf gr : Nat} {v : Value} {S S' : Fr} (h : FrIn w B gf gr v S) (k : Kept (fun j => j = gr) w w') (hR : S'.R = S.R) (hC : S'.C = S.C) (hK : S'.K = S.K) (hL : S'.L = S.L) (hu : S'.used = S.used) (ho : S'.old = S.old) (hr : Fm w' gr 90 (S.R * 255) (frF S')) : FrIn w' B gf gr v S' := by
  refine ⟨?_, ?_, ?_, h.ne, h.nt, h.nr, h.bt, h.br⟩
  · rw [hR, hC, hK, hu, ho]; exact (k.block gf h.box.lt h.ne).trans h.box
  · rw [hR]; exact hr
  · rw [hL]; exact own_kept h.l k (fun i hi e => h.nr (by rw [hi, e]))
set_option maxHeartbeats 3200000 in
theorem add_any (w : World) (B gf gr : Nat) (v : Value) (S : Fr) (d : ByteArray) (h : FrIn w B gf gr v S) (hok : OkF S) (hs : d.size ≤ 1099511627776) :
    Calls Tryz.prog 22 #[.pointer (some ⟨gf, 0, none⟩), .string d] w fun e w' => ∃ v', e = .returned (.tuple #[.int .i64 (if addE S d = 0 then (S.used : Int) else 0), .int .i64 (addE S d)]) ∧ FrIn w' B gf gr v' (addS S d) ∧ far w v v' ∧ Kept (footF gf gr v) w w' := by
  have kd := fun V => DgC.check_any d V hs
  have HEd := Lib.hid (show addE S d = if dgE d ≠ 0 then dgE d else if S.R * S.C < S.used + d.size then 17 else 0 from rfl)
  have HDS := Lib.hid (dg_size (d := d))
  have HF := Lib.hid h
  obtain ⟨E, hE⟩ : ∃ E, dgE d = E := ⟨_, rfl⟩
  rw [hE] at kd HEd HDS
  clear hE
  by_cases hE0 : E = 0
  · subst hE0
    have hd := HDS.out rfl
    have hu1 : S.R * S.C ≤ 1024 * 191 := Nat.mul_le_mul hok.R hok.C
    have c0 := fun W (hW : FrIn W B gf gr v S) q => Blk.cell (blk_ext hW.box q) 0 (v := .int .i64 (S.R : Int)) rfl
    have c1 := fun W (hW : FrIn W B gf gr v S) q => Blk.cell (blk_ext hW.box q) 1 (v := .int .i64 (S.C : Int)) rfl
    by_cases hfit : S.R * S.C < S.used + d.size
    · have HE := Lib.hid (show addE S d = 17 by rw [HEd.out, if_neg (by simp), if_pos hfit])
      have HS := Lib.hid (show addS S d = S from if_pos (by rw [HE.out]; decide))
      have t1 : decide ((S.R : Int) * (S.C : Int) - (S.used : Int) < (d.size : Int)) = true := decide_eq_true (by have : ((S.R * S.C : Nat) : Int) = (S.R : Int) * (S.C : Int) := Int.natCast_mul _ _; omega)
      have t2 : decide (S.R * S.C - S.used < d.size) = true := decide_eq_true (by omega)
      have q0 : (0 : Int) ≤ (S.R : Int) * (S.C : Int) := by have : ((S.R * S.C : Nat) : Int) = (S.R : Int) * (S.C : Int) := Int.natCast_mul _ _; omega
      have q1 : (S.R : Int) * (S.C : Int) ≤ 200000 := by have : ((S.R * S.C : Nat) : Int) = (S.R : Int) * (S.C : Int) := Int.natCast_mul _ _; omega
      have q2 : (S.used : Int) ≤ (S.R : Int) * (S.C : Int) := by have : ((S.R * S.C : Nat) : Int) = (S.R : Int) * (S.C : Int) := Int.natCast_mul _ _; have := hok.u; omega
      rw [show (if addE S d = 0 then (S.used : Int) else 0) = 0 from if_neg (by rw [HE.out]; decide), HE.out]
      have q3 : (0 : Int) ≤ (S.used : Int) := Int.natCast_nonneg _
      clear h hok HEd HDS hu1 hfit
      go_enter Tryz.func22, Tryz.ntmps22
      go_wp2_with fail
      (with_reducible refine (kd _).mono ?_); rintro e1 W1 ⟨rfl, hb1⟩
      have hF1 := HF.out.below hb1
      have d0 := c0 W1 hF1
      have d1 := c1 W1 hF1
      have d4 := Blk.cell hF1.box 4 (v := .int .i64 (S.used : Int)) rfl
      have d4' := fun q => Blk.cell (blk_ext hF1.box q) 4 (v := .int .i64 (S.used : Int)) rfl
      clear kd c0 c1 hF1
      go_wp2_with fail
      refine Go.Proofs.YtlocgilgdnhnlaaGreatDoor.Q.region_ext (by kernel_rfl) (by kernel_rfl) ?_
      repeat (go_big_quiet_step (fail))
      refine wpQuiet_nil ?_
      rintro w9 ⟨pq, rfl⟩
      have hb2 := hb1.trans ((below_ext W1 pq).mono hb1.size)
      clear d0 d1 d4 d4'
      go_wp2_with fail
      go_ret2
      exact ⟨v, rfl, by rw [HS.out]; exact HF.out.below hb2, Or.inl rfl, kept_below _ hb2⟩
    · have HE := Lib.hid (show addE S d = 0 by rw [HEd.out, if_neg (by simp), if_neg hfit])
      have HS := Lib.hid (show addS S d = { laidF S d d.size with L := S.L ++ [(S.used, d)], used := S.used + d.size, old := true } from if_neg (by rw [HE.out]; decide))
      have t1 : decide ((S.R : Int) * (S.C : Int) - (S.used : Int) < (d.size : Int)) = false := decide_eq_false (by have : ((S.R * S.C : Nat) : Int) = (S.R : Int) * (S.C : Int) := Int.natCast_mul _ _; omega)
      have t2 : decide (S.R * S.C - S.used < d.size) = false := decide_eq_false (by omega)
      have q0 : (0 : Int) ≤ (S.R : Int) * (S.C : Int) := by have : ((S.R * S.C : Nat) : Int) = (S.R : Int) * (S.C : Int) := Int.natCast_mul _ _; omega
      have q1 : (S.R : Int) * (S.C : Int) ≤ 200000 := by have : ((S.R * S.C : Nat) : Int) = (S.R : Int) * (S.C : Int) := Int.natCast_mul _ _; omega
      have q2 : (S.used : Int) ≤ (S.R : Int) * (S.C : Int) := by have : ((S.R * S.C : Nat) : Int) = (S.R : Int) * (S.C : Int) := Int.natCast_mul _ _; have := hok.u; omega
      rw [show (if addE S d = 0 then (S.used : Int) else 0) = S.used from if_pos HE.out, HE.out]
      have q3 : (0 : Int) ≤ (S.used : Int) := Int.natCast_nonneg _
      have hRC : S.R * S.C ≤ S.R * 191 := Nat.mul_le_mul_left _ hok.C
      have HN := Lib.hid (show S.used + d.size ≤ 191 * S.R ∧ d.size ≤ 4080 ∧ S.R ≤ 1024 ∧ S.L.length ≤ S.used from ⟨by omega, hd.2, hok.R, hok.n⟩)
      clear h hok HEd HDS hu1 hfit hd hRC
      go_enter Tryz.func22, Tryz.ntmps22
      go_wp2_with fail
      (with_reducible refine (kd _).mono ?_); rintro e1 W1 ⟨rfl, hb1⟩
      have hF1 := HF.out.below hb1
      have d0 := c0 W1 hF1
      have d1 := c1 W1 hF1
      have d4 := Blk.cell hF1.box 4 (v := .int .i64 (S.used : Int)) rfl
      have d4' := fun q => Blk.cell (blk_ext hF1.box q) 4 (v := .int .i64 (S.used : Int)) rfl
      clear kd c0 c1 hF1
      go_wp2_with fail
      refine Go.Proofs.YtlocgilgdnhnlaaGreatDoor.Q.region_ext (by kernel_rfl) (by kernel_rfl) ?_
      repeat (go_big_quiet_step (fail))
      refine wpQuiet_nil ?_
      rintro w9 ⟨pq, rfl⟩
      have hb2 := hb1.trans ((below_ext W1 pq).mono hb1.size)
      have hF2 := HF.out.below hb2
      have hK2 : Kept (footF gf gr v) w (ext W1 pq) := kept_below _ hb2
      obtain ⟨u, hu⟩ : ∃ u, S.used = u := ⟨_, rfl⟩
      have HU := Lib.hid hu
      rw [hu] at q2 q3 ⊢
      obtain ⟨n, hn⟩ : ∃ n, d.size = n := ⟨_, rfl⟩
      have HNN := Lib.hid hn
      have n1 : (n : Int) ≤ 4080 := by have := HN.out; omega
      have u1 : (u : Int) ≤ 200000 := by have := HN.out; omega
      clear d0 d1 d4 d4' t1 t2 q0 q1 q2 hu hn hb1 hb2
      go_wp2_with fail
      rw [HNN.out]
      go_loopw [39] (fun iv wr => ∃ k : Nat, k ≤ n ∧ iv = .int .i64 k ∧ Hid (FrIn wr B gf gr v (laidF S d k)) ∧ Hid (Kept (footF gf gr v) w wr)) (fun iv _ => n - (intOf iv).toNat)
      case atStart => exact ⟨0, by omega, rfl, Lib.hid (by rw [laidF_zero]; exact hF2), Lib.hid hK2⟩
      case round =>
        clear hF2 hK2
        obtain ⟨k, hk, rfl, HT, HK⟩ := hrel
        have k0 : (0 : Int) ≤ (k : Int) := Int.natCast_nonneg _
        by_cases hkn : k < n
        · have t3 : decide ((k : Int) < (n : Int)) = true := decide_eq_true (by omega)
          have t3' : decide (k < n) = true := decide_eq_true hkn
          have hpk : u + k < 255 * S.R := by have := HN.out; have := HNN.out; have := HU.out; omega
          have ks := spot_any wr B gf gr (u + k) v (laidF S d k) HT.out HN.out.2.2.1 hpk
          rw [show (laidF S d k).R = S.R from rfl] at ks
          obtain ⟨e1, e2, e3⟩ := div_lt hpk
          have HST := Lib.hid (fun j hj => laidF_step S d k j (by rw [HU.out]; exact hpk) hj)
          rw [HU.out] at HST
          have hi : ∀ V, (Instr.index 9 (.string d) (.int .i64 (k : Int))).run Tryz.prog V = .ok (.int .u8 ((sb d k).toNat : Int)) V := fun V => idx_at d k (by rw [HNN.out]; exact hkn) V
          obtain ⟨r, hr⟩ : ∃ r, (u + k) % S.R = r := ⟨_, rfl⟩
          obtain ⟨c, hc⟩ : ∃ c, (u + k) / S.R = c := ⟨_, rfl⟩
          rw [hr] at ks e1 HST
          rw [hc] at ks e2 HST
          rw [show ((u + k : Nat) : Int) = (u : Int) + (k : Int) by omega] at ks
          have k1 := fun V => run_cint (P := Tryz.prog) (w := V) 77 3 r (by kernel_rfl) Tryz.underlying3 (by have := HN.out; omega)
          have k2 := fun V => run_cint (P := Tryz.prog) (w := V) 77 3 c (by kernel_rfl) Tryz.underlying3 (by omega)
          have hrr : (r + 1) * 255 ≤ S.R * 255 := Nat.mul_le_mul_right _ e1
          have j0 : (0 : Int) ≤ (r : Int) := Int.natCast_nonneg _
          have j1 : (r : Int) < (S.R : Int) := by omega
          have j2 : (0 : Int) ≤ (c : Int) := Int.natCast_nonneg _
          have j3 : (c : Int) < 255 := by omega
          clear hr hc e3 hpk
          go_wp2_with fail
          (with_reducible refine (ks).mono ?_); rintro e2' W2 ⟨rfl, hb2⟩
          have HT2 := Lib.hid (HT.out.below hb2)
          have HK2 := Lib.hid (HK.out.then (by have := HK.out.size; exact hb2.mono this))
          have d5 := fun q => Blk.cell (blk_ext HT2.out.box q) 5 (v := .slice (some ⟨gr, 0, none⟩) S.R S.R) rfl
          have d6 := fun q => (HT2.out.rows.ext q).cell (r * 255 + c) (by show r * 255 + c < S.R * 255; omega)
          have d7 := fun q => (HT2.out.rows.ext q).frozen (r * 255 + c)
          clear ks HT HK hb2
          go_wp2_with fail
          refine Go.Proofs.YtlocgilgdnhnlaaGreatDoor.Q.region_ext_tail 15 (by kernel_rfl) (by kernel_rfl) ?_
          simp only [List.take_succ_cons, List.take_zero, List.drop_succ_cons, List.drop_zero]
          repeat (go_big_quiet_step (fail))
          refine wpQuiet_nil ?_
          rintro w9 ⟨pq, rfl⟩
          have g1 := d6 pq
          have g2 := d7 pq
          have hT3 := HT2.out.ext pq
          have hkq : Kept (fun j => j = gr) (ext W2 pq) ((ext W2 pq).setCell ⟨gr, r * 255 + c, none⟩ (.int .u8 ((sb d k).toNat : Int))) := kept_set (F := fun j => j = gr) rfl
          have HT9 := Lib.hid (fr_rows (S' := laidF S d (k + 1)) hT3 hkq rfl rfl rfl rfl rfl rfl ((hT3.rows.put (r * 255 + c) (.int .u8 ((sb d k).toNat : Int))).congr (fun j hj => HST.out j hj)))
          have HK9 : Hid (Kept (footF gf gr v) w ((ext W2 pq).setCell ⟨gr, r * 255 + c, none⟩ (.int .u8 ((sb d k).toNat : Int)))) := Lib.hid ((HK2.out.then ((below_ext W2 pq).mono HK2.out.size)).trans hkq (fun i _ e => Or.inr (Or.inl e)))
          clear HT2 HK2 hT3 hkq d5 d6 d7
          go_wp2_with fail
          go_roundw
          case rel => exact ⟨k + 1, by omega, by go_num, HT9, HK9⟩
          case measure => simp [intOf]; omega
        · obtain rfl : k = n := by omega
          have t3 : decide ((k : Int) < (k : Int)) = false := decide_eq_false (by omega)
          have t3' : decide (k < k) = false := decide_eq_false (by omega)
          have c3 := Blk.cell HT.out.box 3 (v := v) rfl
          have hbA := (Below.refl wr.heap.size wr).alloc (Nat.le_refl _) (.cells #[.int .i64 (u : Int), .string d] 43)
          have HV := Lib.hid (HT.out.below hbA)
          have HKV := Lib.hid (HK.out.then (hbA.mono HK.out.size))
          have hb9 := Blk.new wr 43 #[.int .i64 (u : Int), .string d]
          have HSZ := Lib.hid (show w.heap.size ≤ wr.heap.size from HK.out.size)
          have hlen : S.L.length ≤ 200000 := by have := HN.out; omega
          have hsz : B ≤ (wr.alloc (.cells #[.int .i64 (u : Int), .string d] 43)).heap.size := by have := HT.out.bt; have := HT.out.box.lt; simp; omega
          have hov := HV.out.l
          rw [show (laidF S d k).L = S.L from rfl] at hov
          clear HT HK hbA
          go_wp2_with (at_builtin; refine ApG.wpList_appG rfl _ _ rfl elemPd rfl hov rfl rfl (blk_news hb9) (by simp [Value.oneCell']) (by omega) (by unfold maxLen; omega) hsz ?_)
          intro v9 W8 hown9 hg9 hat9
          obtain ⟨av, cv, hvf⟩ := own_form hown9
          subst hvf
          have b0 : Blk W8 gf 70 #[.int .i64 (S.R : Int), .int .i64 (S.C : Int), .int .i64 (S.K : Int), v, .int .i64 (S.used : Int), .slice (some ⟨gr, 0, none⟩) S.R S.R, .bool S.old] := (hg9.block gf HV.out.box.lt (fun e => HV.out.nt e.symm)).trans HV.out.box
          have hr8 : Fm W8 gr _ _ _ := HV.out.rows.same (hg9.block gr HV.out.rows.lt (fun e => HV.out.nr e.symm))
          have n2 : (d.size : Int) ≤ 4080 := by rw [HNN.out]; exact n1
          have n3 : (0 : Int) ≤ (d.size : Int) := Int.natCast_nonneg _
          have f3 := Blk.cell b0 3 (v := v) rfl
          have f3' := Blk.frozen b0 3
          have b1 := Blk.set_ b0 3 (.slice av (S.L.length + 1) cv)
          have f4 := Blk.cell b1 4 (v := .int .i64 (S.used : Int)) rfl
          have f4' := Blk.frozen b1 4
          have b2 := Blk.set_ b1 4 (.int .i64 ((u : Int) + (d.size : Int)))
          have f6 := Blk.cell b2 6 (v := .bool S.old) rfl
          have f6' := Blk.frozen b2 6
          have b3 := Blk.set_ b2 6 (.bool true)
          have hnt : (Value.slice av (S.L.length + 1) cv).ownBlock ≠ some gf := fun e => by
            rcases hat9 with h | h
            · exact HV.out.nt (h ▸ e)
            · rw [h] at e; injection e with e; have h9 := HV.out.box.lt; simp at h9; omega
          have hnr : (Value.slice av (S.L.length + 1) cv).ownBlock ≠ some gr := fun e => by
            rcases hat9 with h | h
            · exact HV.out.nr (h ▸ e)
            · rw [h] at e; injection e with e; have h9 := HV.out.rows.lt; simp at h9; omega
          have hset : ∀ (V : World) (i : Nat) (x : Value), Kept (fun j => j = gf) V (V.setCell ⟨gf, i, none⟩ x) := fun V i x => kept_set (F := fun j => j = gf) rfl
          have hk3 : Kept (fun j => j = gf) W8 (((W8.setCell ⟨gf, 3, none⟩ (.slice av (S.L.length + 1) cv)).setCell ⟨gf, 4, none⟩ (.int .i64 ((u : Int) + (d.size : Int)))).setCell ⟨gf, 6, none⟩ (.bool true)) := ((hset _ 3 (.slice av (S.L.length + 1) cv)).trans (hset _ 4 _) (fun _ _ h => h)).trans (hset _ 6 _) (fun _ _ h => h)
          have hT9 : FrIn (((W8.setCell ⟨gf, 3, none⟩ (.slice av (S.L.length + 1) cv)).setCell ⟨gf, 4, none⟩ (.int .i64 ((u : Int) + (d.size : Int)))).setCell ⟨gf, 6, none⟩ (.bool true)) B gf gr (.slice av (S.L.length + 1) cv) { laidF S d d.size with L := S.L ++ [(S.used, d)], used := S.used + d.size, old := true } := by
            refine ⟨?_, ?_, ?_, HV.out.ne, hnt, hnr, HV.out.bt, HV.out.br⟩
            · rw [show ((u : Int) + (d.size : Int)) = ((S.used + d.size : Nat) : Int) by rw [← HU.out]; omega] at b3 ⊢
              exact b3
            · have := RsA.fm_kept hr8 hk3 (fun e => HV.out.ne e.symm)
              rw [← HNN.out] at this
              exact this
            · have hl9 : W8.ownsRow B 43 2 (.slice av (S.L.length + 1) cv) (S.L ++ [(S.used, d)]).length (flat enPd (S.L ++ [(S.used, d)])) := by
                rw [flat_app, List.length_append, HU.out]
                exact hown9
              exact own_kept hl9 hk3 (fun i hi e => hnt (by rw [hi, e]))
          have hK9 : Kept (footF gf gr v) w (((W8.setCell ⟨gf, 3, none⟩ (.slice av (S.L.length + 1) cv)).setCell ⟨gf, 4, none⟩ (.int .i64 ((u : Int) + (d.size : Int)))).setCell ⟨gf, 6, none⟩ (.bool true)) :=
            (HKV.out.trans (kept_grown (F := footF gf gr v) hg9 (fun r e => Or.inr (Or.inr e))) (fun _ _ h => h)).trans hk3 (fun i _ e => Or.inl e)
          have hfar : far w v (.slice av (S.L.length + 1) cv) := by
            rcases hat9 with h | h
            · exact Or.inl h
            · exact Or.inr ⟨_, h, by have := HSZ.out; simp; omega⟩
          have HT9 := Lib.hid hT9
          have HK9 := Lib.hid hK9
          clear hov hb9 hown9 hg9 hat9 b0 hr8 b1 b2 b3 hnt hnr hset hk3 hT9 hK9 HV HKV c3
          go_wp2_with fail
          go_ret2
          exact ⟨by rw [HU.out]; rfl, .slice av (S.L.length + 1) cv, by rw [HS.out]; exact HT9.out, hfar, HK9.out⟩
  · have HE := Lib.hid (show addE S d = E by rw [HEd.out, if_pos hE0])
    have HS := Lib.hid (show addS S d = S from if_pos (by rw [HE.out]; exact hE0))
    have HEZ := Lib.hid (show (if addE S d = 0 then (S.used : Int) else 0) = 0 from if_neg (by rw [HE.out]; exact hE0))
    rw [HEZ.out, HE.out]
    have t0 : (E == 0) = false := by simpa using hE0
    have t0' : (E != 0) = true := by simpa using hE0
    clear h hok HEd HDS hE0
    go_enter Tryz.func22, Tryz.ntmps22
    go_wp2_with fail
    (with_reducible refine (kd _).mono ?_); rintro e1 W1 ⟨rfl, hb1⟩
    clear kd
    go_wp2_with fail
    go_ret2
    exact ⟨v, rfl, by rw [HS.out]; exact HF.out.below hb1, Or.inl rfl, kept_below _ hb1⟩
theorem clone_any (w : World) (B n : Nat) (v : Value) (L : List (Nat × ByteArray)) (hL : L.length = n) (hn : n ≤ 200000) (h : w.ownsRow B 43 2 v n (flat enPd L)) :
    Calls Tryz.prog 25 #[v] w fun e w' => Below w.heap.size w w' ∧ ∃ v', e = .returned v' ∧ w'.ownsRow w.heap.size 43 2 v' n (flat enPd L) := by
  obtain ⟨R, hR⟩ : ∃ R : Ending → World → Prop, R = (fun e w' => Below w.heap.size w w' ∧ ∃ v', e = .returned v' ∧ w'.ownsRow w.heap.size 43 2 v' n (flat enPd L)) := ⟨_, rfl⟩
  rw [← hR]
  have HR := Lib.hid hR
  clear hR
  rcases h.2 with ⟨rfl, h0⟩ | ⟨g, cap, cur, rfl, hBg, hg, hc⟩
  · have HL : L = [] := List.eq_nil_of_length_eq_zero (by omega)
    subst HL
    clear h
    have he := fun V => run_eql_slice_nil (P := Tryz.prog) V 38 43 none 0 0 Tryz.underlying38
    go_enter Tryz.func25, Tryz.ntmps25
    go_wp2_with fail
    rw [HR.out]
    exact ⟨Below.refl _ _, _, rfl, by rw [h0]; exact World.ownsRow_nil _ _ _ _⟩
  · have hsq := own_seq enPd_len h hL
    have hbA := (Below.refl w.heap.size w).alloc (Nat.le_refl _) (.cells #[] 43)
    have hs2 := hsq.below (Nat.le_refl _) hbA
    have hown0 : (w.alloc (.cells #[] 43)).ownsRow w.heap.size 43 2 (.slice (some ⟨w.heap.size, 0, none⟩) 0 0) 0 (flat enPd []) :=
      ⟨rfl, Or.inr ⟨w.heap.size, 0, #[], rfl, Nat.le_refl _, heap_alloc_new w _, Nat.le_refl _, Nat.zero_le _, rfl, rfl⟩⟩
    have HHO := Lib.hid h
    have he := fun V => run_eql_slice_nil (P := Tryz.prog) V 38 43 (some ⟨g, 0, none⟩) n cap Tryz.underlying38
    clear h hg hc hsq
    go_enter Tryz.func25, Tryz.ntmps25
    go_wp2_with (at_builtin; refine wpList_appS (A := []) (L := L) (n := 0) (m := n) rfl _ _ rfl enPd_len (fun x u hu => by simp only [enPd, List.mem_cons, List.not_mem_nil, or_false] at hu; rcases hu with rfl | rfl <;> rfl) elemPd rfl rfl hown0 rfl hL (fun e => by cases e) hs2 (fun a' e => ⟨g, 0, by injection e with e; exact e.symm⟩) (by omega) (by unfold maxLen; omega) (by simp) ?_)
    intro v9 W8 hown9 hb8
    have hb9 := hbA.trans hb8
    have HO9 := Lib.hid hown9
    clear hown0 hs2 hown9
    go_wp2_with fail
    rw [HR.out]
    exact ⟨hb9, _, rfl, HO9.out⟩
theorem placed_any (w : World) (B gf gr : Nat) (v : Value) (S : Fr) (h : FrIn w B gf gr v S) (hok : OkF S) :
    Calls Tryz.prog 10 #[.pointer (some ⟨gf, 0, none⟩)] w fun e w' => Below w.heap.size w w' ∧ ∃ v', e = .returned v' ∧ w'.ownsRow w.heap.size 43 2 v' S.L.length (flat enPd S.L) := by
  obtain ⟨R, hR⟩ : ∃ R : Ending → World → Prop, R = (fun e w' => Below w.heap.size w w' ∧ ∃ v', e = .returned v' ∧ w'.ownsRow w.heap.size 43 2 v' S.L.length (flat enPd S.L)) := ⟨_, rfl⟩
  rw [← hR]
  have HR := Lib.hid hR
  clear hR
  have c3 := Blk.cell h.box 3 (v := v) rfl
  have h1 : S.R * S.C ≤ 1024 * 191 := Nat.mul_le_mul hok.R hok.C
  have kc := clone_any w B S.L.length v S.L rfl (by have := hok.n; have := hok.u; omega) h.l
  clear h hok h1
  go_enter Tryz.func10, Tryz.ntmps10
  go_wp2_with fail
  (with_reducible refine (kc).mono ?_); rintro e1 W1 ⟨hb1, v', rfl, hown⟩
  clear kc
  go_wp2_with fail
  rw [HR.out]
  exact ⟨hb1, _, rfl, hown⟩
end Go.Proofs.YtlocgilgdnhnlaaGreatDoor.FrB
