import Derived.Test.YtbiiehobfnbloaaGreatDoorLnPkV
import Derived.Test.YtbiiehobfnbloaaGreatDoorLnPkD
namespace Go.Proofs.YtbiiehobfnbloaaGreatDoor.RtM
open Go Go.RowKit Q Mem Rg Ap ApG St BiW TlS TbM TbN TbO TbP TbR
set_option maxRecDepth 100000
section
variable {w w' : World} {B gx g1 g2 g3 : Nat} {S : Tb}
end
end Go.Proofs.YtbiiehobfnbloaaGreatDoor.RtM
namespace Go.Proofs.YtbiiehobfnbloaaGreatDoor.RtN
open Go Go.RowKit Q Mem Rg Ap ApG St BiW TlS TbM TbN TbO TbP TbR RtM
set_option maxRecDepth 100000
variable {w w' : World} {B gx g1 g2 g3 : Nat} {S : Tb}
end Go.Proofs.YtbiiehobfnbloaaGreatDoor.RtN
namespace Go.Proofs.YtbiiehobfnbloaaGreatDoor.RtO
open Go Go.RowKit Q Mem Rg Ap ApG St BiW TlS TbM TbN TbO TbP TbQ TbR RtM RtN
set_option maxRecDepth 100000
end Go.Proofs.YtbiiehobfnbloaaGreatDoor.RtO
namespace Go.Proofs.YtbiiehobfnbloaaGreatDoor.RtP
open Go Go.RowKit Q Mem Rg Ap ApG St BiW DgB DgC DgF DgG TlS TbM TbN TbO TbP TbQ TbR TbT TbU RtM RtN RtO
set_option maxRecDepth 100000
end Go.Proofs.YtbiiehobfnbloaaGreatDoor.RtP
namespace Go.Proofs.YtbiiehobfnbloaaGreatDoor.RtQ
open Go Go.RowKit Q Mem Rg Ap ApG St BiW TlS TbM TbN TbO TbP TbQ TbR TbT TbU RtM RtN RtO RtP
set_option maxRecDepth 100000
end Go.Proofs.YtbiiehobfnbloaaGreatDoor.RtQ
namespace Go.Proofs.YtbiiehobfnbloaaGreatDoor.LaA
open Go Go.RowKit Q Mem Rg St BiW BiG CrB DgC DgM DgN
set_option maxRecDepth 100000
def fillB (f : Nat → UInt8) (k : Nat) : List UInt8 := (List.range k).map f
theorem fill_len (f : Nat → UInt8) (k : Nat) : (fillB f k).length = k := by simp [fillB]
theorem fill_succ (f : Nat → UInt8) (k : Nat) : fillB f (k + 1) = fillB f k ++ [f k] := by simp [fillB, List.range_succ]
theorem fill_set {W : World} {g k q : Nat} {f : Nat → UInt8} (hR : Blk W g 5 (rowB (fillB f q) (k - q))) (hq : q < k) : Blk (W.setCell ⟨g, q, none⟩ (.int .u8 ((f q).toNat : Int))) g 5 (rowB (fillB f (q + 1)) (k - (q + 1))) := by
  obtain ⟨m, hm⟩ : ∃ m, k - q = m + 1 := ⟨k - q - 1, by omega⟩
  rw [hm] at hR
  have h1 := hR.set_ q (u8v (f q))
  have h2 := rowB_set (fillB f q) m (f q)
  rw [fill_len, ← fill_succ] at h2
  rw [h2, show m = k - (q + 1) by omega] at h1
  exact h1
theorem fill_cell {W : World} {g k q : Nat} {f : Nat → UInt8} (hR : Blk W g 5 (rowB (fillB f q) (k - q))) (hq : q < k) : W.cell? ⟨g, q, none⟩ = some (.int .u8 0) := by
  obtain ⟨m, hm⟩ : ∃ m, k - q = m + 1 := ⟨k - q - 1, by omega⟩
  rw [hm] at hR
  exact Blk.cell hR q (by have := rowB_at (fillB f q) m; rw [fill_len] at this; exact this)
def f7 (b i : Nat) : UInt8 := UInt8.ofNat ((b + i % 7) % 256)
def f1 (b i : Nat) : UInt8 := UInt8.ofNat ((b + i % 256) % 256)
def madeK (n : Int) : Nat := (max 0 (min n 4060)).toNat
def madeD (n : Int) (b : Nat) : ByteArray := mkD ⟨#[97, 98, 99, 100]⟩ ⟨#[101, 102, 103, 104]⟩ b (str (fillB (f7 b) (madeK n)))
set_option maxHeartbeats 1600000 in
theorem made_any (n : Int) (b : Nat) (w : World) (hb : b < 256) : Calls Tryz.prog 55 #[.int .i64 n, .int .u8 (b : Int)] w fun e w' => e = .returned (.string (madeD n b)) ∧ Below w.heap.size w w' := by
  have HY := Lib.hid (show madeD n b = mkD ⟨#[97, 98, 99, 100]⟩ ⟨#[101, 102, 103, 104]⟩ b (str (fillB (f7 b) (madeK n))) from rfl)
  obtain ⟨m, hm⟩ : ∃ m, min n 4060 = m := ⟨_, rfl⟩
  obtain ⟨k, hk⟩ : ∃ k, madeK n = k := ⟨_, rfl⟩
  have hmn : ∀ (ts : Array TypeId) (ty : TypeId) (V : World), (Builtin.min_ ts ty #[.int .i64 n, .int .i64 4060]).run Tryz.prog V = .ok (.int .i64 m) V := fun ts ty V => by
    rw [run_min_int2]
    congr 2
    split <;> omega
  have hmx : ∀ (ts : Array TypeId) (ty : TypeId) (V : World), (Builtin.max_ ts ty #[.int .i64 0, .int .i64 m]).run Tryz.prog V = .ok (.int .i64 (k : Int)) V := fun ts ty V => by
    rw [run_max_int2]
    congr 2
    unfold madeK at hk
    split <;> omega
  have hk4 : k ≤ 4060 := by unfold madeK at hk; omega
  have hmk := fun V => mk_bytes k (by omega) V
  have hb9 : (b : Int) < 256 := by omega
  have hb0 : (0 : Int) ≤ (b : Int) := Int.natCast_nonneg _
  rw [hk] at HY
  clear hk hm
  go_enter Tryz.func55, Tryz.ntmps55
  gw0
  go_loopw [6] (fun i wr => ∃ q : Nat, q ≤ k ∧ i = .int .i64 q ∧ Hid (Blk wr w.heap.size 5 (rowB (fillB (f7 b) q) (k - q)) ∧ Below w.heap.size w wr)) (fun i _ => k - (intOf i).toNat)
  case atStart => exact ⟨0, by omega, rfl, Lib.hid ⟨Blk.new _ _ _, (Below.refl _ _).alloc (Nat.le_refl _) _⟩⟩
  case round =>
    obtain ⟨q, hq, rfl, hI⟩ := hrel
    obtain ⟨hR, hE⟩ := hI.out
    by_cases hqk : q < k
    · have t1 : decide (q < k) = true := decide_eq_true hqk
      have r1 := fill_cell hR hqk
      have r2 := Blk.frozen hR q
      have h1 := fill_set hR hqk
      have h3 : ((f7 b q).toNat : Int) = ((b : Int) + (q : Int) % 7) % 256 := by
        unfold f7
        rw [UInt8.toNat_ofNat']
        omega
      rw [h3] at h1
      have hE2 := hE.setCell (p := ⟨w.heap.size, q, none⟩) (Nat.le_refl _) (.int .u8 (((b : Int) + (q : Int) % 7) % 256))
      have HX := Lib.hid (And.intro h1 hE2)
      have q0 : (0 : Int) ≤ (q : Int) := Int.natCast_nonneg _
      have q1 : (q : Int) < (k : Int) := by omega
      clear h1 h3 hE2 hR hE hI
      gw0
      go_roundw
      case rel => exact ⟨q + 1, by omega, by go_num, HX⟩
      case measure => simp [intOf]; omega
    · obtain rfl : q = k := by omega
      have t1 : decide (q < q) = false := by simp
      rw [Nat.sub_self] at hR
      have hc := conv_row (l := fillB (f7 b) q) (n := q) hR (fill_len _ q) q
      have hbz : (str (fillB (f7 b) q)).size ≤ 4060 := by rw [← bl_len, bl_str, fill_len]; omega
      have km := fun V => make_any ⟨#[97, 98, 99, 100]⟩ ⟨#[101, 102, 103, 104]⟩ (str (fillB (f7 b) q)) (b : Int) V (by decide) (by decide) hbz (by omega)
      rw [← HY.out] at km
      clear hbz hR hI HY
      gw0
      (with_reducible refine (km _).mono ?_); rintro e1 W1 ⟨rfl, hb1⟩
      have hE1 := hE.trans (hb1.mono hE.size)
      gw0
      go_ret
      exact ⟨rfl, hE1⟩
end Go.Proofs.YtbiiehobfnbloaaGreatDoor.LaA
namespace Go.Proofs.YtbiiehobfnbloaaGreatDoor.LaB
open Go Go.RowKit Q Mem Rg Ap St BiW CrB SeEq TlS TbM TbO TbP TbR TbU RtM RtN RtQ LaA
set_option maxRecDepth 100000
structure Opn where
  ask : Int
  at_ : Int
  n : Int
  b : Nat
  text : ByteArray
def enOp (o : Opn) : List Value := [.int .i64 o.ask, .int .i64 o.at_, .int .i64 o.n, .int .u8 (o.b : Int), .string o.text]
def fewO (o : Opn) : Prop := o.text.size ≤ 5000 ∧ o.n ≤ 5000 ∧ -5000 ≤ o.n
instance (o : Opn) : Decidable (fewO o) := by unfold fewO; infer_instance
end Go.Proofs.YtbiiehobfnbloaaGreatDoor.LaB
namespace Go.Proofs.YtbiiehobfnbloaaGreatDoor.LaE
open Go Go.RowKit Q Mem Rg Ap ApG St BiW CrB Tab DgB DgC TlS TbM TbO TbP TbQ TbR TbS TbT TbU RtM LaA LaB
set_option maxRecDepth 100000
end Go.Proofs.YtbiiehobfnbloaaGreatDoor.LaE
