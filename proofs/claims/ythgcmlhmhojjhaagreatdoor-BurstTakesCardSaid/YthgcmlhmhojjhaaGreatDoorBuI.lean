/- burst: New; what nil frames and nil gatherers answer; the law BurstNil. -/
import Derived.Test.YthgcmlhmhojjhaaGreatDoorBuG
import Derived.Test.YthgcmlhmhojjhaaGreatDoorPkV
namespace Go.Proofs.YthgcmlhmhojjhaaGreatDoor.BuI
open Go Go.RowKit Go.Proofs.YthgcmlhmhojjhaaGreatDoor.Q Go.Proofs.YthgcmlhmhojjhaaGreatDoor.Mem Go.Proofs.YthgcmlhmhojjhaaGreatDoor.Rg Go.Proofs.YthgcmlhmhojjhaaGreatDoor.Ap Go.Proofs.YthgcmlhmhojjhaaGreatDoor.St Go.Proofs.YthgcmlhmhojjhaaGreatDoor.Tab Go.Proofs.YthgcmlhmhojjhaaGreatDoor.TbM Go.Proofs.YthgcmlhmhojjhaaGreatDoor.TbO Go.Proofs.YthgcmlhmhojjhaaGreatDoor.BuG

set_option maxRecDepth 100000
theorem make_nil (mac : Int) (w : World) : Calls Tryz.prog 10 #[.pointer none, .int .i64 mac] w fun e w' => e = .returned (.tuple #[.slice none 0 0, .int .i64 2]) ∧ w = w' := by
  go_enter Tryz.func10, Tryz.ntmps10
  go_wp2_with fail
  go_ret2
  exact ⟨rfl, rfl⟩
theorem take_nil (t : ByteArray) (w : World) : Calls Tryz.prog 11 #[.pointer none, .string t] w fun e w' => e = .returned (.tuple #[.bool false, .int .i64 2]) ∧ w = w' := by
  go_enter Tryz.func11, Tryz.ntmps11
  go_wp2_with fail
  go_ret2
  exact ⟨rfl, rfl⟩
theorem taken_nil (w : World) : Calls Tryz.prog 13 #[.pointer none] w fun e w' => e = .returned (.int .i64 0) ∧ w = w' := by
  go_enter Tryz.func13, Tryz.ntmps13
  go_wp2_with fail
  go_ret
  exact ⟨rfl, rfl⟩
theorem end_nil (w : World) : Calls Tryz.prog 20 #[.pointer none] w fun e w' => e = .returned (.tuple #[.slice none 0 0, .int .i64 0, .int .i64 0]) ∧ w = w' := by
  go_enter Tryz.func20, Tryz.ntmps20
  go_wp2_with fail
  go_ret3
  exact ⟨rfl, rfl⟩
/-- a gatherer in memory -/
structure GaIn (w : World) (B g gt gr : Nat) (v : Value) (S : Tb) (mac : Int) (n : Nat) : Prop where
  box : Blk w g 74 #[.pointer (some ⟨gt, 0, none⟩), .int .i64 (S.R : Int), .int .i64 mac, .int .i64 (n : Int)]
  t : TbIn w B gt gr v S
  gb : B ≤ g
theorem bnew_yes (rows mac : Int) (w : World) (hT : Tab 0 w) (h : isSz rows = true) : Calls Tryz.prog 8 #[.int .i64 rows, .int .i64 mac] w fun e w' => Below w.heap.size w w' ∧ ∃ (R g gt gr : Nat), rows = (R : Int) ∧ R ≤ 1024 ∧ 0 < R ∧ e = .returned (.tuple #[.pointer (some ⟨g, 0, none⟩), .int .i64 0]) ∧ GaIn w' w.heap.size g gt gr (.slice none 0 0) (emptyT R) mac 0 := by
  have kt := TbO.new_any rows w hT
  rw [h] at kt
  have kt2 := kt.mono (fun e w' h => (show Below w.heap.size w w' ∧ ∃ (R gt gr : Nat), rows = (R : Int) ∧ R ≤ 1024 ∧ 0 < R ∧ e = .returned (.tuple #[.pointer (some ⟨gt, 0, none⟩), .int .i64 0]) ∧ TbIn w' w.heap.size gt gr (.slice none 0 0) (emptyT R) from ⟨h.1, by have := h.2; rw [if_pos rfl] at this; exact this⟩))
  clear kt h hT
  obtain ⟨Q, hQ⟩ : ∃ Q : Ending → World → Prop, Q = (fun e w' => Below w.heap.size w w' ∧ ∃ (R g gt gr : Nat), rows = (R : Int) ∧ R ≤ 1024 ∧ 0 < R ∧ e = .returned (.tuple #[.pointer (some ⟨g, 0, none⟩), .int .i64 0]) ∧ GaIn w' w.heap.size g gt gr (.slice none 0 0) (emptyT R) mac 0) := ⟨_, rfl⟩
  rw [← hQ]
  have HQ := Lib.hid hQ
  clear hQ
  go_enter Tryz.func8, Tryz.ntmps8
  go_wp2_with fail
  (with_reducible refine (kt2).mono ?_); rintro e1 W1 ⟨hb1, R, gt, gr, rfl, hR1, hR2, rfl, ht⟩
  have HF := Lib.hid (show Below w.heap.size w (W1.alloc (.cells #[.pointer (some ⟨gt, 0, none⟩), .int .i64 (R : Int), .int .i64 mac, .int .i64 0] 74)) ∧ GaIn (W1.alloc (.cells #[.pointer (some ⟨gt, 0, none⟩), .int .i64 (R : Int), .int .i64 mac, .int .i64 0] 74)) w.heap.size W1.heap.size gt gr (.slice none 0 0) (emptyT R) mac 0 from
    ⟨hb1.alloc hb1.size _, ⟨Blk.new _ _ _, ht.below ((Below.refl _ _).alloc (Nat.le_refl _) _), hb1.size⟩⟩)
  clear kt2 hb1 ht
  go_wp2_with fail
  rw [HQ.out]
  exact ⟨HF.out.1, R, W1.heap.size, gt, gr, rfl, hR1, hR2, rfl, HF.out.2⟩
theorem bnew_no (rows mac : Int) (w : World) (hT : Tab 0 w) (h : isSz rows = false) : Calls Tryz.prog 8 #[.int .i64 rows, .int .i64 mac] w fun e w' => e = .returned (.tuple #[.pointer none, .int .i64 23]) ∧ Below w.heap.size w w' := by
  have kt := TbO.new_any rows w hT
  rw [h] at kt
  have kt2 := kt.mono (fun e w' h => (show e = .returned (.tuple #[.pointer none, .int .i64 23]) ∧ Below w.heap.size w w' from ⟨by have := h.2; rw [if_neg (by decide)] at this; exact this, h.1⟩))
  clear kt h hT
  go_enter Tryz.func8, Tryz.ntmps8
  go_wp2_with fail
  (with_reducible refine (kt2).mono ?_); rintro e1 W1 ⟨rfl, hb1⟩
  go_wp2_with fail
  go_ret2
  exact ⟨rfl, hb1⟩
end Go.Proofs.YthgcmlhmhojjhaaGreatDoor.BuI
