/- The law BurstMakes: Make of an empty frame, and the plain part. -/
import Derived.Test.YthgcmlhmhojjhaaGreatDoorBuJ
import Derived.Test.YthgcmlhmhojjhaaGreatDoorBuK
namespace Go.Proofs.YthgcmlhmhojjhaaGreatDoor.BuL
open Go Go.RowKit Go.Proofs.YthgcmlhmhojjhaaGreatDoor.Q Go.Proofs.YthgcmlhmhojjhaaGreatDoor.Mem Go.Proofs.YthgcmlhmhojjhaaGreatDoor.Rg Go.Proofs.YthgcmlhmhojjhaaGreatDoor.Ap Go.Proofs.YthgcmlhmhojjhaaGreatDoor.St Go.Proofs.YthgcmlhmhojjhaaGreatDoor.CrB Go.Proofs.YthgcmlhmhojjhaaGreatDoor.Ints Go.Proofs.YthgcmlhmhojjhaaGreatDoor.Tab Go.Proofs.YthgcmlhmhojjhaaGreatDoor.DgC Go.Proofs.YthgcmlhmhojjhaaGreatDoor.TbM Go.Proofs.YthgcmlhmhojjhaaGreatDoor.FrA Go.Proofs.YthgcmlhmhojjhaaGreatDoor.FrB Go.Proofs.YthgcmlhmhojjhaaGreatDoor.FrC Go.Proofs.YthgcmlhmhojjhaaGreatDoor.LaA Go.Proofs.YthgcmlhmhojjhaaGreatDoor.LaH Go.Proofs.YthgcmlhmhojjhaaGreatDoor.FcA Go.Proofs.YthgcmlhmhojjhaaGreatDoor.BuC Go.Proofs.YthgcmlhmhojjhaaGreatDoor.BuD Go.Proofs.YthgcmlhmhojjhaaGreatDoor.BuE

set_option maxRecDepth 100000
theorem make_none (w : World) (B gf gr : Nat) (v : Value) (S : Fr) (mac : Int) (h : FrIn w B gf gr v S) (h0 : S.used = 0) :
    Calls Tryz.prog 10 #[.pointer (some ⟨gf, 0, none⟩), .int .i64 mac] w fun e w' => e = .returned (.tuple #[.slice none 0 0, .int .i64 18]) ∧ w = w' := by
  have ku := used_any w B gf gr v S h
  rw [h0] at ku
  clear h h0
  go_enter Tryz.func10, Tryz.ntmps10
  go_wp2_with fail
  (with_reducible refine (ku).mono ?_); rintro e1 W0 ⟨rfl, rfl⟩
  go_wp2_with fail
  go_ret2
  exact ⟨rfl, rfl⟩
theorem parL_again (S : Fr) (k : Nat) : parL (parS S k) k = parL S k := by unfold parL; rw [par_fresh]
theorem padN_par (S : Fr) (k : Nat) : padN (parS S k) = padN S := by
  unfold padN
  rw [(parS_same S k).2.1, (parS_same S k).2.2.1]
theorem chain_zero {L : List (Nat × ByteArray)} {b : Nat} (h : Chain 0 L b) : (L.length = 0 → b = 0) ∧ (L.length ≠ 0 → b ≠ 0) := by
  cases L with
  | nil => exact ⟨fun _ => Eq.symm h, fun h2 => absurd rfl h2⟩
  | cons x t =>
    obtain ⟨p, d⟩ := x
    obtain ⟨h1, h2, h3⟩ := h
    have h4 := chain_le h3
    have h5 := dg_size h2
    exact ⟨fun h => by simp at h, fun _ => by omega⟩
/-- a frame of 256 rows, filled, may be made -/
structure MkS (S : Fr) : Prop where
  ok : OkF S
  K : S.K ≤ 64
  R : S.R = 256
  good : GoodL S.L
  n : S.L.length ≤ 20
  zero : S.L.length = 0 → S.used = 0
  pos : S.L.length ≠ 0 → S.used ≠ 0
  col : ColOk (padN S : Nat) (parL S (64 - S.K))
theorem frK_mk {C K : Nat} (hC : C ≤ 191) (hK : K ≤ 64) (l : List Int) (hl : l.length ≤ 20) : MkS (frK 256 C K l l.length) := by
  have ho := frK_ok (R := 256) (C := C) (K := K) (by decide) (by decide) hC l l.length
  obtain ⟨r1, r2, r3⟩ := frK_R 256 C K l l.length
  have hn := frK_len 256 C K l l.length
  obtain ⟨S, hS⟩ : ∃ S, frK 256 C K l l.length = S := ⟨_, rfl⟩
  rw [hS] at ho r1 r2 r3 hn ⊢
  have hz := chain_zero ho.ch
  have hu := ho.ok.u
  rw [r1, r2] at hu
  refine ⟨ho.ok, by omega, r1, fun x hx => ?_, by omega, hz.1, hz.2, ⟨?_, ?_, ?_⟩⟩
  · have := chain_in ho.ch x hx
    exact ⟨this.2.2, by omega⟩
  · unfold padN
    rw [r1]
    split <;> omega
  · rw [parL_len]; omega
  · intro s hs
    unfold parL at hs
    rw [List.mem_map] at hs
    obtain ⟨i, _, rfl⟩ := hs
    rw [← bl_len, bl_str]
    unfold FrC.colS
    rw [List.length_map, List.length_range, fresh_R, r1]
    rfl
end Go.Proofs.YthgcmlhmhojjhaaGreatDoor.BuL
