import Derived.Test.YtbiiehobfnbloaaGreatDoorLnPkG
import Derived.Test.YtbiiehobfnbloaaGreatDoorLnPkV
import Derived.Laws.IdiomCopy
import Derived.Test.YtbiiehobfnbloaaGreatDoorLnPkB
import Derived.Test.YtbiiehobfnbloaaGreatDoorLnApC
import Derived.Lib.LazyBuf
import Derived.Lib.BufferWrite
namespace Go.Proofs.YtbiiehobfnbloaaGreatDoor.GfA
open Go Go.RowKit Q Mem Rg Ap St BiW TbM TbN GfP
set_option maxRecDepth 100000
def zf : Array Value := Array.replicate 510 (.int .u8 0) ++ Array.replicate 256 (.int .i64 0)
def fldF (i k : Nat) : Value := if k < 255 then (if k < i then u8v (ex k) else .int .u8 0) else if k < 510 then (if k - 255 < i then u8v (ex (k - 255)) else .int .u8 0) else .int .i64 ((logI i (UInt8.ofNat (k - 510)) : Nat) : Int)
theorem fld_zero (k : Nat) (hk : k < 766) : zf[k]? = some (fldF 0 k) := by
  unfold zf fldF
  by_cases h : k < 510
  · rw [Array.getElem?_append_left (by simpa using h), Array.getElem?_replicate, if_pos h]
    by_cases h1 : k < 255
    · rw [if_pos h1, if_neg (by omega)]
    · rw [if_neg h1, if_pos h, if_neg (by omega)]
  · rw [Array.getElem?_append_right (by simpa using h), Array.getElem?_replicate, if_pos (by simp; omega), if_neg (by omega), if_neg h]
    rfl
theorem fld_lo {i k : Nat} (h : k < 255) : fldF i k = if k < i then u8v (ex k) else .int .u8 0 := if_pos h
theorem fld_mid {i k : Nat} (h : ¬ k < 255) (h1 : k < 510) : fldF i k = if k - 255 < i then u8v (ex (k - 255)) else .int .u8 0 := (if_neg h).trans (if_pos h1)
theorem fld_hi {i k : Nat} (h : ¬ k < 510) : fldF i k = .int .i64 ((logI i (UInt8.ofNat (k - 510)) : Nat) : Int) := (if_neg (by omega)).trans (if_neg h)
theorem fld_step (i k : Nat) (hi : i < 255) (hk : k < 766) : (if k = 510 + (ex i).toNat then Value.int .i64 (i : Int) else if k = i + 255 then u8v (ex i) else if k = i then u8v (ex i) else fldF i k) = fldF (i + 1) k := by
  have hx : (ex i).toNat < 256 := (ex i).toNat_lt
  by_cases h : k < 510
  · rw [if_neg (by omega)]
    by_cases h1 : k < 255
    · rw [if_neg (by omega), fld_lo h1, fld_lo h1]
      by_cases h2 : k = i
      · rw [if_pos h2, if_pos (by omega), h2]
      · rw [if_neg h2]
        by_cases h3 : k < i
        · rw [if_pos h3, if_pos (by omega)]
        · rw [if_neg h3, if_neg (by omega)]
    · rw [fld_mid h1 h, fld_mid h1 h]
      by_cases h2 : k = i + 255
      · rw [if_pos h2, if_pos (by omega), h2, Nat.add_sub_cancel]
      · rw [if_neg h2, if_neg (by omega)]
        by_cases h3 : k - 255 < i
        · rw [if_pos h3, if_pos (by omega)]
        · rw [if_neg h3, if_neg (by omega)]
  · rw [fld_hi h, fld_hi h, logI]
    by_cases h2 : k = 510 + (ex i).toNat
    · have e : UInt8.ofNat (k - 510) = ex i := by rw [h2, Nat.add_sub_cancel_left]; exact UInt8.ofNat_toNat
      rw [if_pos h2, if_pos e]
    · have e : ¬ UInt8.ofNat (k - 510) = ex i := fun e => h2 (by
        rw [← e, UInt8.toNat_ofNat_of_lt' (by show k - 510 < 256; omega)]
        omega)
      rw [if_neg h2, if_neg (by omega), if_neg (by omega), if_neg e]
def Fld (w : World) (g : Nat) : Prop := Fm w g 385 766 (fldF 255)
theorem ex_twice (i : Nat) : ((ex (i + 1)).toNat : Int) = if 128 ≤ (ex i).toNat then bits .xor .i64 (2 * ((ex i).toNat : Int)) 285 else 2 * ((ex i).toNat : Int) := by
  have key : ∀ x : UInt8, ((dbl x).toNat : Int) = if 128 ≤ x.toNat then bits .xor .i64 (2 * (x.toNat : Int)) 285 else 2 * (x.toNat : Int) := by
    intro x
    have h : ∀ n : Fin 256, ((dbl (UInt8.ofNat n)).toNat : Int) = if 128 ≤ n.val then bits .xor .i64 (2 * (n.val : Int)) 285 else 2 * (n.val : Int) := by decide +kernel
    have := h ⟨x.toNat, x.toNat_lt⟩
    rwa [show UInt8.ofNat (⟨x.toNat, x.toNat_lt⟩ : Fin 256).val = x from UInt8.ofNat_toNat] at this
  exact key (ex i)
theorem kq_set {a b : World} {g i : Nat} {u : Value} (h : Kept (fun j => j = g) a b) : Kept (fun j => j = g) a (b.setCell ⟨g, i, none⟩ u) := h.trans (kept_set (F := fun j => j = g) rfl) (fun _ _ h => h)
theorem kq_drew {a b : World} {F : Nat → Prop} (h : Kept F a b) : Kept F a b.drew := ⟨h.os, h.tape, h.output, h.size, h.block⟩
set_option maxHeartbeats 1600000 in
theorem new_any (w : World) : Calls Tryz.prog 230 #[] w fun e w' => e = .returned (.pointer (some ⟨w.heap.size, 0, none⟩)) ∧ Fld w' w.heap.size ∧ Below w.heap.size w w' := by
  have hz : Tryz.zeroCells385 = zf := by kernel_rfl
  have hF0 : Fm (w.alloc (.cells Tryz.zeroCells385 385)) w.heap.size 385 766 (fldF 0) := ⟨zf, by rw [hz]; exact heap_alloc_new w _, by simp [zf], fun k hk => fld_zero k hk⟩
  have hb0 := (Below.refl w.heap.size w).alloc (Nat.le_refl _) (.cells Tryz.zeroCells385 385)
  clear hz
  go_enter Tryz.func230, Tryz.ntmps230
  gw0
  go_loopw [2, 6] (fun xv iv W => ∃ k : Nat, k ≤ 255 ∧ iv = .int .i64 k ∧ xv = .int .i64 ((ex k).toNat : Int) ∧ Fm W w.heap.size 385 766 (fldF k) ∧ Below w.heap.size w W) (fun _ iv _ => 255 - (intOf iv).toNat)
  case atStart => exact ⟨0, by omega, rfl, rfl, hF0, hb0⟩
  case round =>
    obtain ⟨k, hk, rfl, rfl, hF, hb⟩ := hrel
    by_cases hk5 : k < 255
    · have t0 : decide ((k : Int) < 255) = true := decide_eq_true (by omega)
      have hF' := Fm.drew hF
      obtain ⟨x, hx⟩ : ∃ x, (ex k).toNat = x := ⟨_, rfl⟩
      have hx8 : x < 256 := by rw [← hx]; exact (ex k).toNat_lt
      have hu : u8v (ex k) = .int .u8 (x : Int) := by rw [← hx]; rfl
      have HT := Lib.hid (ex_twice k)
      have HS := Lib.hid (fld_step k)
      rw [hx] at HT HS
      rw [hu] at HS
      have d0 := hF'.cell k (by omega)
      have d1 := hF'.cell (k + 255) (by omega)
      have g0 := hF'.frozen k
      have g1 := hF'.frozen (k + 255)
      have hA := hF'.put k (.int .u8 (x : Int))
      have hB := hF'.put (k + 255) (.int .u8 (x : Int))
      have p1 : (wr.setCell ⟨w.heap.size, k, none⟩ (.int .u8 (x : Int))).drew.cell? ⟨w.heap.size, k + 255, none⟩ = some _ := hA.cell (k + 255) (by omega)
      have p2 : (wr.setCell ⟨w.heap.size, k, none⟩ (.int .u8 (x : Int))).drew.frozen? ⟨w.heap.size, k + 255, none⟩ = false := hA.frozen (k + 255)
      have p3 : (wr.setCell ⟨w.heap.size, k + 255, none⟩ (.int .u8 (x : Int))).drew.cell? ⟨w.heap.size, k, none⟩ = some _ := hB.cell k (by omega)
      have p4 : (wr.setCell ⟨w.heap.size, k + 255, none⟩ (.int .u8 (x : Int))).drew.frozen? ⟨w.heap.size, k, none⟩ = false := hB.frozen k
      have hAB := hA.put (k + 255) (.int .u8 (x : Int))
      have hBA := hB.put k (.int .u8 (x : Int))
      have q0 : (0 : Int) ≤ (k : Int) := Int.natCast_nonneg _
      have q1 : (k : Int) < 255 := by omega
      have q2 : (0 : Int) ≤ (x : Int) := Int.natCast_nonneg _
      have q3 : (x : Int) < 256 := by omega
      have hC : Fm ((wr.setCell ⟨w.heap.size, k, none⟩ (.int .u8 (x : Int))).setCell ⟨w.heap.size, k + 255, none⟩ (.int .u8 (x : Int))).drew w.heap.size 385 766 _ := hAB
      have r1 := hC.cell (510 + x) (by omega)
      have r2 := hC.frozen (510 + x)
      rw [if_neg (by omega), if_neg (by omega), fld_hi (by omega)] at r1
      have hD : Fm (((wr.setCell ⟨w.heap.size, k, none⟩ (.int .u8 (x : Int))).setCell ⟨w.heap.size, k + 255, none⟩ (.int .u8 (x : Int))).setCell ⟨w.heap.size, 510 + x, none⟩ (.int .i64 (k : Int))).drew w.heap.size 385 766 _ := hC.put (510 + x) (.int .i64 (k : Int))
      have hE := hD.congr (fun i hi => HS.out i hk5 hi)
      have hbE : Below w.heap.size w (((wr.setCell ⟨w.heap.size, k, none⟩ (.int .u8 (x : Int))).setCell ⟨w.heap.size, k + 255, none⟩ (.int .u8 (x : Int))).setCell ⟨w.heap.size, 510 + x, none⟩ (.int .i64 (k : Int))).drew :=
        hb.trans (Kept.be (kq_drew (kq_set (kq_set (kq_set (Kept.refl (fun j => j = w.heap.size) wr))))) hb.size (fun i hi => by omega))
      have HE := Lib.hid (And.intro hE hbE)
      rw [hx]
      clear hx hu hF hF' hF0 hb0 hA hB hAB hBA hC hD hE hbE HS
      by_cases h8 : 128 ≤ x
      · have t1 : decide ((256 : Int) ≤ (x : Int) * 2) = true := decide_eq_true (by omega)
        gw0
        go_region
        gw0
        go_roundw
        case rel =>
          refine ⟨k + 1, by omega, by congr 1, ?_, HE.out.1, HE.out.2⟩
          rw [HT.out, if_pos h8, Int.mul_comm]
        case measure => simp [intOf]; omega
      · have t1 : decide ((256 : Int) ≤ (x : Int) * 2) = false := decide_eq_false (by omega)
        gw0
        go_region
        gw0
        go_roundw
        case rel =>
          refine ⟨k + 1, by omega, by congr 1, ?_, HE.out.1, HE.out.2⟩
          rw [HT.out, if_neg h8, Int.mul_comm]
        case measure => simp [intOf]; omega
    · obtain rfl : k = 255 := by omega
      gw0
      go_ret
      exact ⟨rfl, hF, hb⟩
theorem Fld.below {w w' : World} {g B : Nat} (h : Fld w g) (hb : Below B w w') (hg : g < B) : Fld w' g := Fm.below h hb hg
theorem Fld.be {w w' : World} {g : Nat} (h : Fld w g) (hb : Below w.heap.size w w') : Fld w' g := Fm.below h hb (Fm.lt h)
end Go.Proofs.YtbiiehobfnbloaaGreatDoor.GfA
namespace Go.Proofs.YtbiiehobfnbloaaGreatDoor.PoA
open Go Go.RowKit Q Mem Rg Ap St BiW BiG CrB SeEq TbM GfP PoP RsP GfA
set_option maxRecDepth 100000
end Go.Proofs.YtbiiehobfnbloaaGreatDoor.PoA
namespace Go.Proofs.YtbiiehobfnbloaaGreatDoor.RsA
open Go Go.RowKit Q Mem Rg Ap St BiW BiG CrB SeEq TbM TbQ GfP PoP RsP GfA PoA
set_option maxRecDepth 100000
end Go.Proofs.YtbiiehobfnbloaaGreatDoor.RsA
namespace Go.Proofs.YtbiiehobfnbloaaGreatDoor.RsB
open Go Go.RowKit Q Mem Rg Ap St BiW BiG CrB SeEq TbM GfP PoP RsP GfA PoA
set_option maxRecDepth 100000
end Go.Proofs.YtbiiehobfnbloaaGreatDoor.RsB
namespace Go.Proofs.YtbiiehobfnbloaaGreatDoor.PoB
open Go Go.RowKit Go.Shelf Q Mem Rg Ap ApC St BiW BiG BiF Rf CrB TbM GfP PoP RsP GfA PoA
attribute [local go_sem] Oper.semAt_some
set_option maxRecDepth 100000
end Go.Proofs.YtbiiehobfnbloaaGreatDoor.PoB
namespace Go.Proofs.YtbiiehobfnbloaaGreatDoor.FrA
open Go Go.RowKit Q Mem Rg Ap ApG St BiW Tab TlS Fl TbM TbN
set_option maxRecDepth 100000
def okC (R C K : Int) : Bool := isSz R && decide (1 ≤ C) && decide (C ≤ 191) && decide (0 ≤ K) && decide (K ≤ 64)
set_option maxHeartbeats 1600000 in
theorem check_any (R C K : Int) (w : World) (hT : Tab 1 w) : Calls Tryz.prog 48 #[.agg #[.int .i64 R, .int .i64 C, .int .i64 K]] w fun e w' => e = .returned (.int .i64 (if okC R C K then 0 else 23)) ∧ Below w.heap.size w w' := by
  have hbe := (Below.refl _ w).alloc (Nat.le_refl _) (.cells #[.int .i64 R, .int .i64 C, .int .i64 K] 75)
  have hB := Blk.new w 75 #[.int .i64 R, .int .i64 C, .int .i64 K]
  have c0 := fun p => Blk.cell (blk_ext hB p) 0 (v := .int .i64 R) rfl
  have c1 := fun p => Blk.cell (blk_ext hB p) 1 (v := .int .i64 C) rfl
  have c2 := fun p => Blk.cell (blk_ext hB p) 2 (v := .int .i64 K) rfl
  have kc := fun p => contains_any 1 R (ext (w.alloc (.cells #[.int .i64 R, .int .i64 C, .int .i64 K] 75)) p) ((hT.be hbe).ext p)
  have HR : Hid ((if okC R C K then (0 : Int) else 23) = if (isSz R && decide (1 ≤ C) && decide (C ≤ 191) && decide (0 ≤ K) && decide (K ≤ 64)) = true then 0 else 23) := Lib.hid rfl
  obtain ⟨Z, hZ⟩ : ∃ Z, isSz R = Z := ⟨_, rfl⟩
  rw [hZ] at kc HR
  clear hZ hT hB
  obtain ⟨X, hX⟩ : ∃ X : Int, (if okC R C K then (0 : Int) else 23) = X := ⟨_, rfl⟩
  rw [hX] at HR ⊢
  clear hX
  cases Z with
  | false =>
    replace HR : Hid (X = 23) := Lib.hid (by rw [HR.out]; rfl)
    go_enter Tryz.func48, Tryz.ntmps48
    gw0
    refine Go.Proofs.YtbiiehobfnbloaaGreatDoor.Q.region_ext (by kernel_rfl) (by kernel_rfl) ?_
    repeat (go_big_quiet_step ((go_at_call 100; refine ext_call_same (kc _))))
    refine wpQuiet_nil ?_
    rintro w9 ⟨pq, rfl⟩
    have hbz := hbe.trans ((below_ext _ pq).mono hbe.size)
    clear c0 c1 c2 kc
    gw0
    go_ret
    rw [HR.out]
    exact ⟨rfl, hbz⟩
  | true =>
    by_cases h1 : C < 1
    · have t1 : decide (C < 1) = true := decide_eq_true h1
      replace HR : Hid (X = 23) := Lib.hid (by rw [HR.out, decide_eq_false (show ¬ 1 ≤ C by omega)]; rfl)
      go_enter Tryz.func48, Tryz.ntmps48
      gw0
      refine Go.Proofs.YtbiiehobfnbloaaGreatDoor.Q.region_ext (by kernel_rfl) (by kernel_rfl) ?_
      repeat (go_big_quiet_step ((go_at_call 100; refine ext_call_same (kc _))))
      refine wpQuiet_nil ?_
      rintro w9 ⟨pq, rfl⟩
      have hbz := hbe.trans ((below_ext _ pq).mono hbe.size)
      clear c0 c1 c2 kc
      gw0
      go_ret
      rw [HR.out]
      exact ⟨rfl, hbz⟩
    · have t1 : decide (C < 1) = false := decide_eq_false h1
      by_cases h2 : 191 < C
      · have t2 : decide (191 < C) = true := decide_eq_true h2
        replace HR : Hid (X = 23) := Lib.hid (by rw [HR.out, decide_eq_false (show ¬ C ≤ 191 by omega), Bool.and_false]; rfl)
        go_enter Tryz.func48, Tryz.ntmps48
        gw0
        refine Go.Proofs.YtbiiehobfnbloaaGreatDoor.Q.region_ext (by kernel_rfl) (by kernel_rfl) ?_
        repeat (go_big_quiet_step ((go_at_call 100; refine ext_call_same (kc _))))
        refine wpQuiet_nil ?_
        rintro w9 ⟨pq, rfl⟩
        have hbz := hbe.trans ((below_ext _ pq).mono hbe.size)
        clear c0 c1 c2 kc
        gw0
        go_ret
        rw [HR.out]
        exact ⟨rfl, hbz⟩
      · have t2 : decide (191 < C) = false := decide_eq_false h2
        by_cases h3 : K < 0
        · have t3 : decide (K < 0) = true := decide_eq_true h3
          replace HR : Hid (X = 23) := Lib.hid (by rw [HR.out, decide_eq_false (show ¬ 0 ≤ K by omega), Bool.and_false]; rfl)
          go_enter Tryz.func48, Tryz.ntmps48
          gw0
          refine Go.Proofs.YtbiiehobfnbloaaGreatDoor.Q.region_ext (by kernel_rfl) (by kernel_rfl) ?_
          repeat (go_big_quiet_step ((go_at_call 100; refine ext_call_same (kc _))))
          refine wpQuiet_nil ?_
          rintro w9 ⟨pq, rfl⟩
          have hbz := hbe.trans ((below_ext _ pq).mono hbe.size)
          clear c0 c1 c2 kc
          gw0
          go_ret
          rw [HR.out]
          exact ⟨rfl, hbz⟩
        · have t3 : decide (K < 0) = false := decide_eq_false h3
          by_cases h4 : 64 < K
          · have t4 : decide (64 < K) = true := decide_eq_true h4
            replace HR : Hid (X = 23) := Lib.hid (by rw [HR.out, decide_eq_false (show ¬ K ≤ 64 by omega), Bool.and_false]; rfl)
            go_enter Tryz.func48, Tryz.ntmps48
            gw0
            refine Go.Proofs.YtbiiehobfnbloaaGreatDoor.Q.region_ext (by kernel_rfl) (by kernel_rfl) ?_
            repeat (go_big_quiet_step ((go_at_call 100; refine ext_call_same (kc _))))
            refine wpQuiet_nil ?_
            rintro w9 ⟨pq, rfl⟩
            have hbz := hbe.trans ((below_ext _ pq).mono hbe.size)
            clear c0 c1 c2 kc
            gw0
            go_ret
            rw [HR.out]
            exact ⟨rfl, hbz⟩
          · have t4 : decide (64 < K) = false := decide_eq_false h4
            replace HR : Hid (X = 0) := Lib.hid (by rw [HR.out, decide_eq_true (show 1 ≤ C by omega), decide_eq_true (show C ≤ 191 by omega), decide_eq_true (show 0 ≤ K by omega), decide_eq_true (show K ≤ 64 by omega)]; rfl)
            go_enter Tryz.func48, Tryz.ntmps48
            gw0
            refine Go.Proofs.YtbiiehobfnbloaaGreatDoor.Q.region_ext (by kernel_rfl) (by kernel_rfl) ?_
            repeat (go_big_quiet_step ((go_at_call 100; refine ext_call_same (kc _))))
            refine wpQuiet_nil ?_
            rintro w9 ⟨pq, rfl⟩
            have hbz := hbe.trans ((below_ext _ pq).mono hbe.size)
            clear c0 c1 c2 kc
            gw0
            go_ret
            rw [HR.out]
            exact ⟨rfl, hbz⟩
structure Fr where
  R : Nat
  C : Nat
  K : Nat
  L : List (Nat × ByteArray)
  used : Nat
  D : Nat → Nat → UInt8
  old : Bool
def frF (S : Fr) (k : Nat) : Value := u8v (S.D (k / 255) (k % 255))
def enPd (x : Nat × ByteArray) : List Value := [.int .i64 (x.1 : Int), .string x.2]
structure FrIn (w : World) (B gf gr : Nat) (v : Value) (S : Fr) : Prop where
  box : Blk w gf 172 #[.int .i64 (S.R : Int), .int .i64 (S.C : Int), .int .i64 (S.K : Int), v, .int .i64 (S.used : Int), .slice (some ⟨gr, 0, none⟩) S.R S.R, .bool S.old]
  rows : Fm w gr 182 (S.R * 255) (frF S)
  l : w.ownsRow B 59 2 v S.L.length (flat enPd S.L)
  ne : gf ≠ gr
  nt : v.ownBlock ≠ some gf
  nr : v.ownBlock ≠ some gr
  bt : B ≤ gf
  br : B ≤ gr
def footF (gf gr : Nat) (v : Value) (i : Nat) : Prop := i = gf ∨ i = gr ∨ v.ownBlock = some i
section
variable {w w' : World} {B gf gr : Nat} {v : Value} {S : Fr}
theorem own_kept {e : TypeId} {sz n : Nat} {xs : List Value} {F : Nat → Prop} (h : w.ownsRow B e sz v n xs) (k : Kept F w w') (hF : ∀ i, v.ownBlock = some i → ¬ F i) : w'.ownsRow B e sz v n xs := by
  refine ⟨h.1, ?_⟩
  rcases h.2 with h1 | ⟨g, cap, cur, e, hb, hg, h2⟩
  · exact Or.inl h1
  · refine Or.inr ⟨g, cap, cur, e, hb, ?_, h2⟩
    rw [k.block g (Array.getElem?_eq_some_iff.1 hg).1 (hF g (by rw [e]; rfl))]
    exact hg
theorem FrIn.kept {F : Nat → Prop} (h : FrIn w B gf gr v S) (k : Kept F w w') (hF : ∀ i, footF gf gr v i → ¬ F i) : FrIn w' B gf gr v S :=
  ⟨(k.block gf h.box.lt (hF _ (Or.inl rfl))).trans h.box, h.rows.same (k.block gr h.rows.lt (hF _ (Or.inr (Or.inl rfl)))), own_kept h.l k (fun i hi => hF i (Or.inr (Or.inr hi))), h.ne, h.nt, h.nr, h.bt, h.br⟩
theorem FrIn.below (h : FrIn w B gf gr v S) (k : Below w.heap.size w w') : FrIn w' B gf gr v S := h.kept (kept_below (fun _ => False) k) (fun _ _ h => h)
theorem FrIn.ext (h : FrIn w B gf gr v S) (p : Ext) : FrIn (ext w p) B gf gr v S := h.below (below_ext w p)
end
def emptyF (R C K : Nat) : Fr := ⟨R, C, K, [], 0, fun _ _ => 0, false⟩
theorem row_info : (Tryz.prog.info? 182).map (fun i => (i.zero, i.size, i.bytes)) = some (some (.agg (Array.replicate 255 (.int .u8 0))), 255, 255) := by kernel_rfl
theorem mk_rows (R C K : Nat) (hR : R ≤ 1024) (V : World) : ∃ A : Array Value, (Instr.makeSlice 170 (.int .i64 (R : Int)) (.int .i64 (R : Int))).run Tryz.prog V = .ok (.slice (some ⟨V.heap.size, 0, none⟩) R R) (V.alloc (.cells A 182)) ∧ Fm (V.alloc (.cells A 182)) V.heap.size 182 (R * 255) (frF (emptyF R C K)) := by
  cases hi : Tryz.prog.info? 182 with
  | none => have h := row_info; rw [hi] at h; cases h
  | some i =>
    have h := row_info
    rw [hi] at h
    simp only [Option.map_some, Option.some.injEq, Prod.mk.injEq] at h
    obtain ⟨h1, h2, h3⟩ := h
    have hr := run_make (P := Tryz.prog) V 170 182 i (.agg (Array.replicate 255 (.int .u8 0))) Tryz.underlying170 hi h1 .i64 .i64 R R (by omega) (Int.le_refl _) (by rw [h3]; omega) (by omega)
    rw [Int.toNat_natCast, h2] at hr
    have hz : (Value.agg (Array.replicate 255 (.int .u8 0))).cells = Array.replicate 255 (Value.int .u8 0) := rfl
    rw [hz] at hr
    obtain ⟨Z, hZ⟩ : ∃ Z, Array.replicate 255 (Value.int .u8 0) = Z := ⟨_, rfl⟩
    have hzs : Z.size = 255 := by rw [← hZ]; simp
    have hza : ∀ k, k < 255 → Z[k]! = .int .u8 0 := fun k hk => by
      rw [← hZ, getElem!_pos _ _ (by simp; omega), Array.getElem_replicate]
    rw [hZ] at hr
    clear hZ hz h1 hi
    refine ⟨madeCells Z (R * 255), hr, madeCells Z (R * 255), heap_alloc_new V _, size_madeCells _ _, fun k hk => ?_⟩
    unfold madeCells
    rw [Array.getElem?_map, Array.getElem?_range]
    simp only [hk, if_true, Option.map_some]
    congr 1
    have hm : k % 255 < 255 := Nat.mod_lt _ (by decide)
    rw [hzs, hza _ hm]
    rfl
structure FrNew (R C K : Int) (w : World) (e : Ending) (w' : World) : Prop where
  ok : ∃ (r c k gf gr : Nat), R = (r : Int) ∧ C = (c : Int) ∧ K = (k : Int) ∧ r ≤ 1024 ∧ 0 < r ∧ c ≤ 191 ∧ k ≤ 64 ∧ e = .returned (.tuple #[.pointer (some ⟨gf, 0, none⟩), .int .i64 0]) ∧ FrIn w' w.heap.size gf gr (.slice none 0 0) (emptyF r c k)
set_option maxHeartbeats 1600000 in
theorem new_any (R C K : Int) (w : World) (hT : Tab 1 w) : Calls Tryz.prog 28 #[.agg #[.int .i64 R, .int .i64 C, .int .i64 K]] w fun e w' => Below w.heap.size w w' ∧
    if okC R C K then FrNew R C K w e w' else e = .returned (.tuple #[.pointer none, .int .i64 23]) := by
  have hbe := (Below.refl _ w).alloc (Nat.le_refl _) (.cells #[.int .i64 R, .int .i64 C, .int .i64 K] 75)
  have hB := Blk.new w 75 #[.int .i64 R, .int .i64 C, .int .i64 K]
  have kc := check_any R C K (w.alloc (.cells #[.int .i64 R, .int .i64 C, .int .i64 K] 75)) (hT.be hbe)
  have HZ : Hid (okC R C K = (isSz R && decide (1 ≤ C) && decide (C ≤ 191) && decide (0 ≤ K) && decide (K ≤ 64))) := Lib.hid rfl
  obtain ⟨Z, hZ⟩ : ∃ Z, okC R C K = Z := ⟨_, rfl⟩
  rw [hZ] at kc HZ ⊢
  have c0 := Blk.cell hB 0 (v := .int .i64 R) rfl
  have c1 := Blk.cell hB 1 (v := .int .i64 C) rfl
  have c2 := Blk.cell hB 2 (v := .int .i64 K) rfl
  clear hZ hT
  cases Z with
  | false =>
    rw [if_neg (by decide)] at kc
    go_enter Tryz.func28, Tryz.ntmps28
    gw0
    (with_reducible refine (kc).mono ?_); rintro e1 W1 ⟨rfl, hb1⟩
    have hbz := hbe.trans (hb1.mono hbe.size)
    clear kc c0 c1 c2
    gw0
    go_ret2
    exact ⟨hbz, rfl⟩
  | true =>
    rw [if_pos rfl] at kc
    have hz := HZ.out.symm
    simp only [Bool.and_eq_true, decide_eq_true_eq] at hz
    obtain ⟨⟨⟨⟨z1, z2⟩, z3⟩, z4⟩, z5⟩ := hz
    have zr := isSz_true z1
    obtain ⟨r, rfl⟩ : ∃ r : Nat, R = (r : Int) := ⟨R.toNat, by omega⟩
    obtain ⟨c, rfl⟩ : ∃ c : Nat, C = (c : Int) := ⟨C.toNat, by omega⟩
    obtain ⟨k, rfl⟩ : ∃ k : Nat, K = (k : Int) := ⟨K.toNat, by omega⟩
    have HN := Lib.hid (show r ≤ 1024 ∧ 0 < r ∧ c ≤ 191 ∧ k ≤ 64 from ⟨by omega, by omega, by omega, by omega⟩)
    clear z1 z2 z3 z4 z5 zr HZ
    go_enter Tryz.func28, Tryz.ntmps28
    gw0
    (with_reducible refine (kc).mono ?_); rintro e1 W1 ⟨rfl, hb1⟩
    have hbz := hbe.trans (hb1.mono hbe.size)
    have hB1 := Blk.below hB hb1 hB.lt
    clear kc c0 c1 c2 hB hb1
    obtain ⟨A, hmk, hF⟩ := mk_rows r c k HN.out.1 W1.drew
    have hB2 := Blk.drew hB1
    have d0 := Blk.cell (hB2) 0 (v := .int .i64 (r : Int)) rfl
    have d1 := Blk.cell (hB2) 1 (v := .int .i64 (c : Int)) rfl
    have d2 := Blk.cell (hB2) 2 (v := .int .i64 (k : Int)) rfl
    have hB3 := Blk.drew (Blk.alloc hB1 (.cells A 182))
    have e0 := Blk.cell (hB3) 0 (v := .int .i64 (r : Int)) rfl
    have e1 := Blk.cell (hB3) 1 (v := .int .i64 (c : Int)) rfl
    have e2 := Blk.cell (hB3) 2 (v := .int .i64 (k : Int)) rfl
    have HF := Lib.hid hF
    clear hF hB1 hB2 hB3
    gw0
    go_region
    gw0
    go_ret2
    have hs1 := hbz.size
    have hb2 : Below w.heap.size w (W1.drew.alloc (.cells A 182)) := (hbz.drew).alloc hs1 _
    refine ⟨hb2.alloc (by simp; omega) _, ⟨r, c, k, W1.heap.size + 1, W1.heap.size, rfl, rfl, rfl, HN.out.1, HN.out.2.1, HN.out.2.2.1, HN.out.2.2.2, rfl, ⟨?_, Fm.alloc HF.out _, World.ownsRow_nil _ _ _ _, by omega, fun h => (by cases h), fun h => (by cases h), by omega, by omega⟩⟩⟩
    exact Blk.newAt _ _ _ (by simp)
end Go.Proofs.YtbiiehobfnbloaaGreatDoor.FrA
namespace Go.Proofs.YtbiiehobfnbloaaGreatDoor.FrB
open Go Go.RowKit Q Mem Rg Ap ApG St BiW Tab TlS Fl DgC TbM TbN TbP FrA
set_option maxRecDepth 100000
end Go.Proofs.YtbiiehobfnbloaaGreatDoor.FrB
namespace Go.Proofs.YtbiiehobfnbloaaGreatDoor.FrC
open Go Go.RowKit Q Mem Rg Ap ApG St BiW BiG CrB Scp TlS TbM TbN TbP RsP FrA FrB
set_option maxRecDepth 100000
def rowL (S : Fr) (r : Nat) : List UInt8 := (List.range 191).map (S.D r)
def frI (S : Fr) (i : Nat) : Fr := { S with D := fun r c => if r < i ∧ 191 ≤ c then (enc (rowL S r)).getD (c - 191) 0 else S.D r c }
def tm (a : Act) (k : Nat) : Value := a.tmps.getD k undef
def frN (gf i : Nat) (u : Nat → Value) : Act := { tmps := #[.pointer (some ⟨gf, 0, none⟩), u 1, .int .i64 (i : Int), u 3, u 4, u 5, u 6, u 7, u 8, u 9, u 10, u 11, u 12, u 13, u 14, u 15, u 16, u 17, u 18, u 19, u 20, u 21, u 22, u 23, u 24, u 25, u 26, u 27, u 28, u 29, u 30, u 31, u 32, u 33, u 34, u 35, u 36, u 37, u 38, u 39, u 40, u 41, u 42, u 43], defers := [] }
def J0 (w : World) (B gf gr : Nat) (v : Value) (S : Fr) (a : Act) (W : World) : Prop :=
  ∃ (u : Nat → Value) (i : Nat), a = frN gf i u ∧ i ≤ S.R ∧ (S.old = false → i = 0) ∧ FrIn W B gf gr v (frI S i) ∧ Kept (footF gf gr v) w W
theorem j0_intro {w W : World} {B gf gr i : Nat} {v : Value} {S : Fr} {a : Act} (h : a = frN gf i (tm a)) (hi : i ≤ S.R) (h0 : S.old = false → i = 0) (hF : FrIn W B gf gr v (frI S i)) (hK : Kept (footF gf gr v) w W) : J0 w B gf gr v S a W := ⟨tm a, i, h, hi, h0, hF, hK⟩
def num (v : Value) : Nat := match v with | .int _ i => i.toNat | _ => 0
end Go.Proofs.YtbiiehobfnbloaaGreatDoor.FrC
