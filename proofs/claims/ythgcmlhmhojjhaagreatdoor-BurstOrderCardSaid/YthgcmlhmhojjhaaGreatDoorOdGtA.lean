/- The law's helpers: in, few, broken. -/
import Derived.Test.YthgcmlhmhojjhaaGreatDoorOdPkX
import Derived.Test.YthgcmlhmhojjhaaGreatDoorOdPkB
namespace Go.Proofs.YthgcmlhmhojjhaaGreatDoor.GtA
open Go Go.RowKit Go.Proofs.YthgcmlhmhojjhaaGreatDoor.Q Go.Proofs.YthgcmlhmhojjhaaGreatDoor.Mem Go.Proofs.YthgcmlhmhojjhaaGreatDoor.Rg Go.Proofs.YthgcmlhmhojjhaaGreatDoor.Ap Go.Proofs.YthgcmlhmhojjhaaGreatDoor.St Go.Proofs.YthgcmlhmhojjhaaGreatDoor.CrB Go.Proofs.YthgcmlhmhojjhaaGreatDoor.Ints

set_option maxRecDepth 100000
theorem in_any (a : Option Addr) (n c : Nat) (l : List Int) (z : Int) (w : World) (hn : l.length = n) (hl : n ≤ 9223372036854775807) (hL : Ints w a l) :
    Calls Tryz.prog 19 #[.slice a n c, .int .i64 z] w fun e w' => e = .returned (.bool (decide (z ∈ l))) ∧ w = w' := by
  have HN := Lib.hid hn
  have HL := Lib.hid hL
  have s0 : (n : Int) ≤ 9223372036854775807 := by omega
  clear hn hL hl
  go_enter Tryz.func19, Tryz.ntmps19
  go_wp2_with fail
  go_loop [5] (fun iv => ∃ k : Nat, k ≤ n ∧ iv = .int .i64 k ∧ Hid (z ∉ l.take k)) (fun iv => n - (intOf iv).toNat)
  case atStart => exact ⟨0, by omega, rfl, Lib.hid (by simp)⟩
  case round =>
    obtain ⟨k, hk, rfl, HK⟩ := hrel
    have k0 : (0 : Int) ≤ (k : Int) := Int.natCast_nonneg _
    by_cases hkn : k < n
    · have t0 : decide ((k : Int) < (n : Int)) = true := decide_eq_true (by omega)
      have t0' : decide (k < n) = true := decide_eq_true hkn
      obtain ⟨y, hy⟩ : ∃ y, l[k]? = some y := ⟨_, List.getElem?_eq_getElem (by rw [HN.out]; exact hkn)⟩
      obtain ⟨b, o, rfl, hlt, hc⟩ := HL.out k y hy
      have k1 : (k : Int) < (n : Int) := by omega
      have HY := Lib.hid hy
      clear hy
      by_cases hx : y = z
      · have t1 : (y == z) = true := beq_iff_eq.2 hx
        have HF := Lib.hid (show decide (z ∈ l) = true from decide_eq_true (hx ▸ List.mem_of_getElem? HY.out))
        clear hx
        go_wp2_with fail
        go_ret
        exact ⟨by rw [HF.out]; rfl, rfl⟩
      · have t1 : (y == z) = false := beq_eq_false_iff_ne.2 hx
        have HX := Lib.hid hx
        clear hx
        go_wp2_with fail
        go_round
        case rel => exact ⟨k + 1, by omega, by go_num, Lib.hid (by
          intro hm
          rw [List.take_add_one, HY.out, Option.toList_some, List.mem_append, List.mem_singleton] at hm
          rcases hm with hm | hm
          · exact HK.out hm
          · exact HX.out hm.symm)⟩
        case measure => simp [intOf]; omega
    · obtain rfl : k = n := by omega
      have t0 : decide ((k : Int) < (k : Int)) = false := decide_eq_false (by omega)
      have t0' : decide (k < k) = false := decide_eq_false (by omega)
      have HF := Lib.hid (show decide (z ∈ l) = false from decide_eq_false (by have := HK.out; rw [List.take_of_length_le (by rw [HN.out]; exact Nat.le_refl _)] at this; exact this))
      clear HK HL
      go_wp2_with fail
      go_ret
      exact ⟨by rw [HF.out]; rfl, rfl⟩
end Go.Proofs.YthgcmlhmhojjhaaGreatDoor.GtA
