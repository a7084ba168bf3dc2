/- table: New. -/
import Derived.Test.YtlocgilgdnhnlaaGreatDoorTbN
namespace Go.Proofs.YtlocgilgdnhnlaaGreatDoor.TbO
open Go Go.RowKit Go.Proofs.YtlocgilgdnhnlaaGreatDoor.Q Go.Proofs.YtlocgilgdnhnlaaGreatDoor.Mem Go.Proofs.YtlocgilgdnhnlaaGreatDoor.Rg Go.Proofs.YtlocgilgdnhnlaaGreatDoor.Ap Go.Proofs.YtlocgilgdnhnlaaGreatDoor.ApG Go.Proofs.YtlocgilgdnhnlaaGreatDoor.St Go.Proofs.YtlocgilgdnhnlaaGreatDoor.BiW Go.Proofs.YtlocgilgdnhnlaaGreatDoor.Tab Go.Proofs.YtlocgilgdnhnlaaGreatDoor.TlS Go.Proofs.YtlocgilgdnhnlaaGreatDoor.Fl Go.Proofs.YtlocgilgdnhnlaaGreatDoor.TbM Go.Proofs.YtlocgilgdnhnlaaGreatDoor.TbN

set_option maxRecDepth 100000
def zrow : Value := .agg (Array.replicate 255 (.int .u8 0) ++ Array.replicate 255 (.bool false))
theorem zrow_at (k : Nat) (hk : k < 510) : (Array.replicate 255 (Value.int .u8 0) ++ Array.replicate 255 (Value.bool false))[k]! = if k < 255 then .int .u8 0 else .bool false := by
  by_cases h : k < 255
  · rw [if_pos h, getElem!_pos _ _ (by simp; omega), Array.getElem_append_left (by simpa using h), Array.getElem_replicate]
  · rw [if_neg h, getElem!_pos _ _ (by simp; omega), Array.getElem_append_right (by simpa using h), Array.getElem_replicate]
def emptyT (R : Nat) : Tb := ⟨R, fun _ => 0, fun _ => false, []⟩
theorem rows_info : (Tryz.prog.info? 64).map (fun i => (i.zero, i.size, i.bytes)) = some (some zrow, 510, 510) := by kernel_rfl
theorem mk_rows (R : Nat) (hR : R ≤ 1024) (V : World) : ∃ C : Array Value, (Instr.makeSlice 58 (.int .i64 (R : Int)) (.int .i64 (R : Int))).run Tryz.prog V = .ok (.slice (some ⟨V.heap.size, 0, none⟩) R R) (V.alloc (.cells C 64)) ∧ Fm (V.alloc (.cells C 64)) V.heap.size 64 (R * 510) (rowF (emptyT R)) := by
  cases hi : Tryz.prog.info? 64 with
  | none => have h := rows_info; rw [hi] at h; cases h
  | some i =>
    have h := rows_info
    rw [hi] at h
    simp only [Option.map_some, Option.some.injEq, Prod.mk.injEq] at h
    obtain ⟨h1, h2, h3⟩ := h
    have hr := run_make (P := Tryz.prog) V 58 64 i zrow Tryz.underlying58 hi h1 .i64 .i64 R R (by omega) (Int.le_refl _) (by rw [h3]; omega) (by omega)
    rw [Int.toNat_natCast, h2] at hr
    have hz : zrow.cells = Array.replicate 255 (Value.int .u8 0) ++ Array.replicate 255 (Value.bool false) := rfl
    rw [hz] at hr
    obtain ⟨Z, hZ⟩ : ∃ Z, Array.replicate 255 (Value.int .u8 0) ++ Array.replicate 255 (Value.bool false) = Z := ⟨_, rfl⟩
    have hzs : Z.size = 510 := by rw [← hZ]; simp
    have hza := zrow_at
    rw [hZ] at hr hza
    clear hZ hz h1 hi
    refine ⟨madeCells Z (R * 510), hr, madeCells Z (R * 510), heap_alloc_new V _, size_madeCells _ _, fun k hk => ?_⟩
    unfold madeCells
    rw [Array.getElem?_map, Array.getElem?_range]
    simp only [hk, if_true, Option.map_some]
    congr 1
    have hm : k % 510 < 510 := Nat.mod_lt _ (by decide)
    rw [hzs, hza _ hm]
    rfl
theorem new_any (x : Int) (w : World) (hT : Tab 0 w) : Calls Tryz.prog 12 #[.int .i64 x] w fun e w' => Below w.heap.size w w' ∧
    if isSz x then ∃ (R gt gr : Nat), x = (R : Int) ∧ R ≤ 1024 ∧ 0 < R ∧ e = .returned (.tuple #[.pointer (some ⟨gt, 0, none⟩), .int .i64 0]) ∧ TbIn w' w.heap.size gt gr (.slice none 0 0) (emptyT R) else e = .returned (.tuple #[.pointer none, .int .i64 23]) := by
  have kc := contains_any 0 x w hT
  obtain ⟨Z, hZ⟩ : ∃ Z, isSz x = Z := ⟨_, rfl⟩
  rw [hZ] at kc ⊢
  cases Z with
  | false =>
    go_enter Tryz.func12, Tryz.ntmps12
    go_wp2_with fail
    (with_reducible refine (kc).mono ?_); rintro e1 W1 ⟨rfl, rfl⟩
    go_wp2_with fail
    go_ret2
    exact ⟨Below.refl _ _, rfl⟩
  | true =>
    obtain ⟨R, rfl⟩ : ∃ R : Nat, x = (R : Int) := ⟨x.toNat, by rcases isSz_true hZ with h | h | h | h <;> omega⟩
    have hR : R ≤ 1024 ∧ 0 < R := by rcases isSz_true hZ with h | h | h | h <;> omega
    obtain ⟨C, hmk, hF⟩ := mk_rows R hR.1 w
    have HF := Lib.hid hF
    have HR := Lib.hid hR
    clear hF hZ hT hR
    go_enter Tryz.func12, Tryz.ntmps12
    go_wp2_with fail
    (with_reducible refine (kc).mono ?_); rintro e1 W1 ⟨rfl, rfl⟩
    go_wp2_with fail
    go_ret2
    have hb : Below w.heap.size w (w.alloc (.cells C 64)) := (Below.refl _ _).alloc (Nat.le_refl _) _
    refine ⟨hb.alloc (by simp) _, R, rfl, HR.out.1, HR.out.2, w.heap.size + 1, rfl, w.heap.size, ⟨Blk.newAt _ _ _ (show w.heap.size + 1 = (w.alloc (.cells C 64)).heap.size by simp), HF.out.alloc _, World.ownsRow_nil _ _ _ _, by omega, fun h => (by cases h), fun h => (by cases h), by omega, Nat.le_refl _⟩⟩
end Go.Proofs.YtlocgilgdnhnlaaGreatDoor.TbO
