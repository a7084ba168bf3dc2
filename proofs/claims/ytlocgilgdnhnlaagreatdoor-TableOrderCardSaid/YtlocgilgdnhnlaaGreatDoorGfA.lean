/- gf, walked: New, Mul, Exp, Inv. -/
import Derived.Test.YtlocgilgdnhnlaaGreatDoorPkG
import Derived.Test.YtlocgilgdnhnlaaGreatDoorTbN
namespace Go.Proofs.YtlocgilgdnhnlaaGreatDoor.GfA
open Go Go.RowKit Go.Proofs.YtlocgilgdnhnlaaGreatDoor.Q Go.Proofs.YtlocgilgdnhnlaaGreatDoor.Mem Go.Proofs.YtlocgilgdnhnlaaGreatDoor.Rg Go.Proofs.YtlocgilgdnhnlaaGreatDoor.Ap Go.Proofs.YtlocgilgdnhnlaaGreatDoor.St Go.Proofs.YtlocgilgdnhnlaaGreatDoor.BiW Go.Proofs.YtlocgilgdnhnlaaGreatDoor.TbM Go.Proofs.YtlocgilgdnhnlaaGreatDoor.TbN Go.Proofs.YtlocgilgdnhnlaaGreatDoor.GfP

set_option maxRecDepth 100000
def zf : Array Value := Array.replicate 510 (.int .u8 0) ++ Array.replicate 256 (.int .i64 0)
/-- the field's cells behind i rounds -/
def fldF (i k : Nat) : Value := if k < 255 then (if k < i then u8v (ex k) else .int .u8 0) else if k < 510 then (if k - 255 < i then u8v (ex (k - 255)) else .int .u8 0) else .int .i64 ((logI i (UInt8.ofNat (k - 510)) : Nat) : Int)
theorem fld_zero (k : Nat) (hk : k < 766) : zf[k]? = some (fldF 0 k) := by
  unfold zf fldF
  by_cases h : k < 510
  · rw [Array.getElem?_append_left (by simpa using h), Array.getElem?_replicate, if_pos h]
    by_cases h1 : k < 255
    · rw [if_pos h1, if_neg (by omega)]
    · rw [if_neg h1, if_pos h, if_neg (by omega)]
  · rw [Array.getElem?_append_right (by simpa using h), Array.getElem?_replicate, if_pos (by simp; omega), if_neg (by omega), if_neg h]
    rfl
theorem fld_lo {i k : Nat} (h : k < 255) : fldF i k = if k < i then u8v (ex k) else .int .u8 0 := if_pos h
theorem fld_mid {i k : Nat} (h : ¬ k < 255) (h1 : k < 510) : fldF i k = if k - 255 < i then u8v (ex (k - 255)) else .int .u8 0 := (if_neg h).trans (if_pos h1)
theorem fld_hi {i k : Nat} (h : ¬ k < 510) : fldF i k = .int .i64 ((logI i (UInt8.ofNat (k - 510)) : Nat) : Int) := (if_neg (by omega)).trans (if_neg h)
theorem fld_step (i k : Nat) (hi : i < 255) (hk : k < 766) : (if k = 510 + (ex i).toNat then Value.int .i64 (i : Int) else if k = i + 255 then u8v (ex i) else if k = i then u8v (ex i) else fldF i k) = fldF (i + 1) k := by
  have hx : (ex i).toNat < 256 := (ex i).toNat_lt
  by_cases h : k < 510
  · rw [if_neg (by omega)]
    by_cases h1 : k < 255
    · rw [if_neg (by omega), fld_lo h1, fld_lo h1]
      by_cases h2 : k = i
      · rw [if_pos h2, if_pos (by omega), h2]
      · rw [if_neg h2]
        by_cases h3 : k < i
        · rw [if_pos h3, if_pos (by omega)]
        · rw [if_neg h3, if_neg (by omega)]
    · rw [fld_mid h1 h, fld_mid h1 h]
      by_cases h2 : k = i + 255
      · rw [if_pos h2, if_pos (by omega), h2, Nat.add_sub_cancel]
      · rw [if_neg h2, if_neg (by omega)]
        by_cases h3 : k - 255 < i
        · rw [if_pos h3, if_pos (by omega)]
        · rw [if_neg h3, if_neg (by omega)]
  · rw [fld_hi h, fld_hi h, logI]
    by_cases h2 : k = 510 + (ex i).toNat
    · have e : UInt8.ofNat (k - 510) = ex i := by rw [h2, Nat.add_sub_cancel_left]; exact UInt8.ofNat_toNat
      rw [if_pos h2, if_pos e]
    · have e : ¬ UInt8.ofNat (k - 510) = ex i := fun e => h2 (by
        rw [← e, UInt8.toNat_ofNat_of_lt' (by show k - 510 < 256; omega)]
        omega)
      rw [if_neg h2, if_neg (by omega), if_neg (by omega), if_neg e]
/-- a field -/
def Fld (w : World) (g : Nat) : Prop := Fm w g 140 766 (fldF 255)
theorem ex_twice (i : Nat) : ((ex (i + 1)).toNat : Int) = if 128 ≤ (ex i).toNat then bits .xor .i64 (2 * ((ex i).toNat : Int)) 285 else 2 * ((ex i).toNat : Int) := by
  have key : ∀ x : UInt8, ((dbl x).toNat : Int) = if 128 ≤ x.toNat then bits .xor .i64 (2 * (x.toNat : Int)) 285 else 2 * (x.toNat : Int) := by
    intro x
    have h : ∀ n : Fin 256, ((dbl (UInt8.ofNat n)).toNat : Int) = if 128 ≤ n.val then bits .xor .i64 (2 * (n.val : Int)) 285 else 2 * (n.val : Int) := by decide +kernel
    have := h ⟨x.toNat, x.toNat_lt⟩
    rwa [show UInt8.ofNat (⟨x.toNat, x.toNat_lt⟩ : Fin 256).val = x from UInt8.ofNat_toNat] at this
  exact key (ex i)
theorem kq_set {a b : World} {g i : Nat} {u : Value} (h : Kept (fun j => j = g) a b) : Kept (fun j => j = g) a (b.setCell ⟨g, i, none⟩ u) := h.trans (kept_set (F := fun j => j = g) rfl) (fun _ _ h => h)
theorem kq_drew {a b : World} {F : Nat → Prop} (h : Kept F a b) : Kept F a b.drew := ⟨h.os, h.tape, h.output, h.size, h.block⟩
set_option maxHeartbeats 1600000 in
theorem new_any (w : World) : Calls Tryz.prog 64 #[] w fun e w' => e = .returned (.pointer (some ⟨w.heap.size, 0, none⟩)) ∧ Fld w' w.heap.size ∧ Below w.heap.size w w' := by
  have hz : Tryz.zeroCells140 = zf := by kernel_rfl
  have hF0 : Fm (w.alloc (.cells Tryz.zeroCells140 140)) w.heap.size 140 766 (fldF 0) := ⟨zf, by rw [hz]; exact heap_alloc_new w _, by simp [zf], fun k hk => fld_zero k hk⟩
  have hb0 := (Below.refl w.heap.size w).alloc (Nat.le_refl _) (.cells Tryz.zeroCells140 140)
  clear hz
  go_enter Tryz.func64, Tryz.ntmps64
  go_wp2_with fail
  go_loopw [2, 6] (fun xv iv W => ∃ k : Nat, k ≤ 255 ∧ iv = .int .i64 k ∧ xv = .int .i64 ((ex k).toNat : Int) ∧ Fm W w.heap.size 140 766 (fldF k) ∧ Below w.heap.size w W) (fun _ iv _ => 255 - (intOf iv).toNat)
  case atStart => exact ⟨0, by omega, rfl, rfl, hF0, hb0⟩
  case round =>
    obtain ⟨k, hk, rfl, rfl, hF, hb⟩ := hrel
    by_cases hk5 : k < 255
    · have t0 : decide ((k : Int) < 255) = true := decide_eq_true (by omega)
      have hF' := Fm.drew hF
      obtain ⟨x, hx⟩ : ∃ x, (ex k).toNat = x := ⟨_, rfl⟩
      have hx8 : x < 256 := by rw [← hx]; exact (ex k).toNat_lt
      have hu : u8v (ex k) = .int .u8 (x : Int) := by rw [← hx]; rfl
      have HT := Lib.hid (ex_twice k)
      have HS := Lib.hid (fld_step k)
      rw [hx] at HT HS
      rw [hu] at HS
      have d0 := hF'.cell k (by omega)
      have d1 := hF'.cell (k + 255) (by omega)
      have g0 := hF'.frozen k
      have g1 := hF'.frozen (k + 255)
      have hA := hF'.put k (.int .u8 (x : Int))
      have hB := hF'.put (k + 255) (.int .u8 (x : Int))
      have p1 : (wr.setCell ⟨w.heap.size, k, none⟩ (.int .u8 (x : Int))).drew.cell? ⟨w.heap.size, k + 255, none⟩ = some _ := hA.cell (k + 255) (by omega)
      have p2 : (wr.setCell ⟨w.heap.size, k, none⟩ (.int .u8 (x : Int))).drew.frozen? ⟨w.heap.size, k + 255, none⟩ = false := hA.frozen (k + 255)
      have p3 : (wr.setCell ⟨w.heap.size, k + 255, none⟩ (.int .u8 (x : Int))).drew.cell? ⟨w.heap.size, k, none⟩ = some _ := hB.cell k (by omega)
      have p4 : (wr.setCell ⟨w.heap.size, k + 255, none⟩ (.int .u8 (x : Int))).drew.frozen? ⟨w.heap.size, k, none⟩ = false := hB.frozen k
      have hAB := hA.put (k + 255) (.int .u8 (x : Int))
      have hBA := hB.put k (.int .u8 (x : Int))
      have q0 : (0 : Int) ≤ (k : Int) := Int.natCast_nonneg _
      have q1 : (k : Int) < 255 := by omega
      have q2 : (0 : Int) ≤ (x : Int) := Int.natCast_nonneg _
      have q3 : (x : Int) < 256 := by omega
      have hC : Fm ((wr.setCell ⟨w.heap.size, k, none⟩ (.int .u8 (x : Int))).setCell ⟨w.heap.size, k + 255, none⟩ (.int .u8 (x : Int))).drew w.heap.size 140 766 _ := hAB
      have r1 := hC.cell (510 + x) (by omega)
      have r2 := hC.frozen (510 + x)
      rw [if_neg (by omega), if_neg (by omega), fld_hi (by omega)] at r1
      have hD : Fm (((wr.setCell ⟨w.heap.size, k, none⟩ (.int .u8 (x : Int))).setCell ⟨w.heap.size, k + 255, none⟩ (.int .u8 (x : Int))).setCell ⟨w.heap.size, 510 + x, none⟩ (.int .i64 (k : Int))).drew w.heap.size 140 766 _ := hC.put (510 + x) (.int .i64 (k : Int))
      have hE := hD.congr (fun i hi => HS.out i hk5 hi)
      have hbE : Below w.heap.size w (((wr.setCell ⟨w.heap.size, k, none⟩ (.int .u8 (x : Int))).setCell ⟨w.heap.size, k + 255, none⟩ (.int .u8 (x : Int))).setCell ⟨w.heap.size, 510 + x, none⟩ (.int .i64 (k : Int))).drew :=
        hb.trans (Kept.be (kq_drew (kq_set (kq_set (kq_set (Kept.refl (fun j => j = w.heap.size) wr))))) hb.size (fun i hi => by omega))
      have HE := Lib.hid (And.intro hE hbE)
      rw [hx]
      clear hx hu hF hF' hF0 hb0 hA hB hAB hBA hC hD hE hbE HS
      by_cases h8 : 128 ≤ x
      · have t1 : decide ((256 : Int) ≤ (x : Int) * 2) = true := decide_eq_true (by omega)
        go_wp2_with fail
        go_region
        go_wp2_with fail
        go_roundw
        case rel =>
          refine ⟨k + 1, by omega, by congr 1, ?_, HE.out.1, HE.out.2⟩
          rw [HT.out, if_pos h8, Int.mul_comm]
        case measure => simp [intOf]; omega
      · have t1 : decide ((256 : Int) ≤ (x : Int) * 2) = false := decide_eq_false (by omega)
        go_wp2_with fail
        go_region
        go_wp2_with fail
        go_roundw
        case rel =>
          refine ⟨k + 1, by omega, by congr 1, ?_, HE.out.1, HE.out.2⟩
          rw [HT.out, if_neg h8, Int.mul_comm]
        case measure => simp [intOf]; omega
    · obtain rfl : k = 255 := by omega
      go_wp2_with fail
      go_ret
      exact ⟨rfl, hF, hb⟩
theorem fld_exp {k : Nat} (h : k < 510) : fldF 255 k = u8v (ex k) := by
  by_cases h1 : k < 255
  · rw [fld_lo h1, if_pos h1]
  · rw [fld_mid h1 h, if_pos (by omega), ← ex_per (k - 255), show k - 255 + 255 = k by omega]
theorem fld_log (a : UInt8) : fldF 255 (510 + a.toNat) = .int .i64 ((lg a : Nat) : Int) := by
  rw [fld_hi (by omega), Nat.add_sub_cancel_left, show UInt8.ofNat a.toNat = a from UInt8.ofNat_toNat]; rfl
theorem Fld.below {w w' : World} {g B : Nat} (h : Fld w g) (hb : Below B w w') (hg : g < B) : Fld w' g := Fm.below h hb hg
theorem Fld.be {w w' : World} {g : Nat} (h : Fld w g) (hb : Below w.heap.size w w') : Fld w' g := Fm.below h hb (Fm.lt h)
set_option maxHeartbeats 1600000 in
theorem mul_any (w : World) (g : Nat) (a b : UInt8) (h : Fld w g) : Calls Tryz.prog 66 #[.pointer (some ⟨g, 0, none⟩), .int .u8 (a.toNat : Int), .int .u8 (b.toNat : Int)] w fun e w' => e = .returned (.int .u8 ((gm a b).toNat : Int)) ∧ Below w.heap.size w w' := by
  have HG := Lib.hid (show gm a b = if a = 0 ∨ b = 0 then 0 else ex (lg a + lg b) from rfl)
  by_cases ha : a = 0
  · have t1 : ((a.toNat : Int) == 0) = true := by rw [ha]; rfl
    have hR : (gm a b).toNat = 0 := by rw [HG.out, if_pos (Or.inl ha)]; rfl
    rw [hR]
    clear h
    go_enter Tryz.func66, Tryz.ntmps66
    go_wp2_with fail
    go_ret
    exact ⟨rfl, Below.refl _ _⟩
  · have t1 : ((a.toNat : Int) == 0) = false := beq_eq_false_iff_ne.2 (fun e => ha (UInt8.toNat_inj.1 (by simpa using e)))
    by_cases hb : b = 0
    · have t2 : ((b.toNat : Int) == 0) = true := by rw [hb]; rfl
      have hR : (gm a b).toNat = 0 := by rw [HG.out, if_pos (Or.inr hb)]; rfl
      rw [hR]
      clear h
      go_enter Tryz.func66, Tryz.ntmps66
      go_wp2_with fail
      go_ret
      exact ⟨rfl, Below.refl _ _⟩
    · have t2 : ((b.toNat : Int) == 0) = false := beq_eq_false_iff_ne.2 (fun e => hb (UInt8.toNat_inj.1 (by simpa using e)))
      have hR : gm a b = ex (lg a + lg b) := by rw [HG.out, if_neg (by rintro (h | h); exact ha h; exact hb h)]
      have la := lg_lt a
      have lb := lg_lt b
      have c1 := fun p => (Fm.ext h p).cell (510 + a.toNat) (by have := a.toNat_lt; omega)
      have c2 := fun p => (Fm.ext h p).cell (510 + b.toNat) (by have := b.toNat_lt; omega)
      have c3 := fun p => (Fm.ext h p).cell (lg a + lg b) (by omega)
      rw [fld_log] at c1 c2
      rw [fld_exp (by omega), ← hR] at c3
      have q1 := a.toNat_lt
      have q2 := b.toNat_lt
      have HR := Lib.hid (show u8v (gm a b) = .int .u8 ((gm a b).toNat : Int) from rfl)
      rw [HR.out] at c3
      obtain ⟨r, hr⟩ : ∃ r, (gm a b).toNat = r := ⟨_, rfl⟩
      obtain ⟨x, hx⟩ : ∃ x, a.toNat = x := ⟨_, rfl⟩
      obtain ⟨y, hy⟩ : ∃ y, b.toNat = y := ⟨_, rfl⟩
      obtain ⟨i, hi⟩ : ∃ i, lg a = i := ⟨_, rfl⟩
      obtain ⟨j, hj⟩ : ∃ j, lg b = j := ⟨_, rfl⟩
      rw [hr] at c3 ⊢
      rw [hx] at t1 c1 q1 ⊢
      rw [hy] at t2 c2 q2 ⊢
      rw [hi] at c1 c3 la
      rw [hj] at c2 c3 lb
      have q3 : (0 : Int) ≤ (x : Int) := Int.natCast_nonneg _
      have q4 : (0 : Int) ≤ (y : Int) := Int.natCast_nonneg _
      have q5 : (0 : Int) ≤ (i : Int) := Int.natCast_nonneg _
      have q6 : (0 : Int) ≤ (j : Int) := Int.natCast_nonneg _
      have q7 : (x : Int) < 256 := by omega
      have q8 : (y : Int) < 256 := by omega
      have q9 : (i : Int) + (j : Int) < 510 := by omega
      clear h hR hr hx hy hi hj HR HG ha hb q1 q2
      go_enter Tryz.func66, Tryz.ntmps66
      go_wp2_with fail
      refine Go.Proofs.YtlocgilgdnhnlaaGreatDoor.Q.region_ext (by kernel_rfl) (by kernel_rfl) ?_
      repeat (go_big_quiet_step (fail))
      refine wpQuiet_nil ?_
      rintro w9 ⟨pq, rfl⟩
      have hbx := below_ext w pq
      go_wp2_with fail
      go_ret
      exact ⟨rfl, hbx⟩
set_option maxHeartbeats 1600000 in
theorem exp_any (w : World) (g n : Nat) (h : Fld w g) (hn : n < 255) : Calls Tryz.prog 78 #[.pointer (some ⟨g, 0, none⟩), .int .i64 (n : Int)] w fun e w' => e = .returned (.int .u8 ((ex n).toNat : Int)) ∧ w = w' := by
  have c1 := h.cell n (by omega)
  rw [fld_exp (by omega), show u8v (ex n) = .int .u8 ((ex n).toNat : Int) from rfl] at c1
  have q1 : (0 : Int) ≤ (n : Int) := Int.natCast_nonneg _
  have q2 : (n : Int) < 255 := by omega
  have e1 : (n : Int) % 255 = (n : Int) := by omega
  have e2 : ((n : Int) + 255) % 255 = (n : Int) := by omega
  obtain ⟨r, hr⟩ : ∃ r, (ex n).toNat = r := ⟨_, rfl⟩
  rw [hr] at c1 ⊢
  clear h hr
  go_enter Tryz.func78, Tryz.ntmps78
  go_wp2_with fail
  go_ret
  exact ⟨rfl, rfl⟩
set_option maxHeartbeats 1600000 in
theorem inv_any (w : World) (g : Nat) (a : UInt8) (h : Fld w g) : Calls Tryz.prog 86 #[.pointer (some ⟨g, 0, none⟩), .int .u8 (a.toNat : Int)] w fun e w' => e = .returned (.int .u8 ((gi a).toNat : Int)) ∧ Below w.heap.size w w' := by
  have HG := Lib.hid (show gi a = if a = 0 then 0 else ex (255 - lg a) from rfl)
  by_cases ha : a = 0
  · have t1 : ((a.toNat : Int) == 0) = true := by rw [ha]; rfl
    have hR : (gi a).toNat = 0 := by rw [HG.out, if_pos ha]; rfl
    rw [hR]
    clear h
    go_enter Tryz.func86, Tryz.ntmps86
    go_wp2_with fail
    go_ret
    exact ⟨rfl, Below.refl _ _⟩
  · have t1 : ((a.toNat : Int) == 0) = false := beq_eq_false_iff_ne.2 (fun e => ha (UInt8.toNat_inj.1 (by simpa using e)))
    have hR : gi a = ex (255 - lg a) := by rw [HG.out, if_neg ha]
    have la := lg_lt a
    have c1 := fun p => (Fm.ext h p).cell (510 + a.toNat) (by have := a.toNat_lt; omega)
    have c3 := fun p => (Fm.ext h p).cell (255 - lg a) (by omega)
    rw [fld_log] at c1
    rw [fld_exp (by omega), ← hR] at c3
    have q1 := a.toNat_lt
    have HR := Lib.hid (show u8v (gi a) = .int .u8 ((gi a).toNat : Int) from rfl)
    rw [HR.out] at c3
    obtain ⟨r, hr⟩ : ∃ r, (gi a).toNat = r := ⟨_, rfl⟩
    obtain ⟨x, hx⟩ : ∃ x, a.toNat = x := ⟨_, rfl⟩
    obtain ⟨i, hi⟩ : ∃ i, lg a = i := ⟨_, rfl⟩
    rw [hr] at c3 ⊢
    rw [hx] at t1 c1 q1 ⊢
    rw [hi] at c1 c3 la
    have q3 : (0 : Int) ≤ (x : Int) := Int.natCast_nonneg _
    have q5 : (0 : Int) ≤ (i : Int) := Int.natCast_nonneg _
    have q6 : (i : Int) < 255 := by omega
    have q7 : (x : Int) < 256 := by omega
    clear h hR hr hx hi HR HG ha q1
    go_enter Tryz.func86, Tryz.ntmps86
    go_wp2_with fail
    refine Go.Proofs.YtlocgilgdnhnlaaGreatDoor.Q.region_ext (by kernel_rfl) (by kernel_rfl) ?_
    repeat (go_big_quiet_step (fail))
    refine wpQuiet_nil ?_
    rintro w9 ⟨pq, rfl⟩
    have hbx := below_ext w pq
    go_wp2_with fail
    go_ret
    exact ⟨rfl, hbx⟩
end Go.Proofs.YtlocgilgdnhnlaaGreatDoor.GfA
