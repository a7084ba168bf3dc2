/- burst: kinds, find. -/
import Derived.Test.YthgcmlhmhojjhaaGreatDoorPkF
import Derived.Test.YthgcmlhmhojjhaaGreatDoorPkN
import Derived.Test.YthgcmlhmhojjhaaGreatDoorPkS
import Derived.Test.YthgcmlhmhojjhaaGreatDoorPkA
import Derived.Laws.EntriesVeiled
namespace Go.Proofs.YthgcmlhmhojjhaaGreatDoor.BuA
open Go Go.RowKit Go.Proofs.YthgcmlhmhojjhaaGreatDoor.Q Go.Proofs.YthgcmlhmhojjhaaGreatDoor.Mem Go.Proofs.YthgcmlhmhojjhaaGreatDoor.Rg Go.Proofs.YthgcmlhmhojjhaaGreatDoor.Ap Go.Proofs.YthgcmlhmhojjhaaGreatDoor.St Go.Proofs.YthgcmlhmhojjhaaGreatDoor.Tab Go.Proofs.YthgcmlhmhojjhaaGreatDoor.SeI

def fv (n : Nat) : Value := .func (.func n) #[] #[]
def isM (t : ByteArray) : Bool := decide (0 < t.size ∧ at' t 0 = 62)
def isF (t : ByteArray) : Bool := decide (0 < t.size ∧ at' t 0 = 120)
theorem not_both {t : ByteArray} (h : isM t = true) : isF t = false := by
  unfold isM at h
  unfold isF
  have := of_decide_eq_true h
  exact decide_eq_false (fun h2 => by omega)
set_option maxRecDepth 100000
theorem kinds_any (w : World) : Calls Tryz.prog 48 #[] w fun e w' => e = .returned (.slice (some ⟨w.heap.size, 0, none⟩) 2 2) ∧ w' = w.alloc (.cells #[.func (.func 69) #[] #[], .func (.func 70) #[] #[], .func (.func 71) #[] #[], .func (.func 72) #[] #[], .func (.func 73) #[] #[], .func (.func 74) #[] #[], .func (.func 75) #[] #[], .func (.func 76) #[] #[]] 83) := by
  go_enter Tryz.func48, Tryz.ntmps48
  go_wp2_with fail
  go_ret
  exact ⟨rfl, rfl⟩
def KM : Array Value := #[.func (.func 69) #[] #[], .func (.func 70) #[] #[], .func (.func 71) #[] #[], .func (.func 72) #[] #[]]
def KF : Array Value := #[.func (.func 73) #[] #[], .func (.func 74) #[] #[], .func (.func 75) #[] #[], .func (.func 76) #[] #[]]
def KZ : Array Value := #[.nilFunc, .nilFunc, .nilFunc, .nilFunc]
theorem find_m (t : ByteArray) (w : World) (h : isM t = true) : Calls Tryz.prog 31 #[.string t] w fun e w' => e = .returned (.tuple #[.agg KM, .bool true]) ∧ Below w.heap.size w w' := by
  have kk := fun V => kinds_any V
  have km := fun V => MpD.is_any t V
  unfold isM at h
  rw [h] at km
  clear h
  have HB := Lib.hid (bk2 w 83 83 #[.nilFunc, .nilFunc, .nilFunc, .nilFunc] #[.func (.func 69) #[] #[], .func (.func 70) #[] #[], .func (.func 71) #[] #[], .func (.func 72) #[] #[], .func (.func 73) #[] #[], .func (.func 74) #[] #[], .func (.func 75) #[] #[], .func (.func 76) #[] #[]])
  have k0 := Blk.cell (HB.out.nth 0 rfl) 0 (v := .func (.func 69) #[] #[]) rfl
  have k1 := Blk.cell (HB.out.nth 0 rfl) 1 (v := .func (.func 70) #[] #[]) rfl
  have k2 := Blk.cell (HB.out.nth 0 rfl) 2 (v := .func (.func 71) #[] #[]) rfl
  have k3 := Blk.cell (HB.out.nth 0 rfl) 3 (v := .func (.func 72) #[] #[]) rfl
  have k4 := Blk.cell (HB.out.nth 0 rfl) 4 (v := .func (.func 73) #[] #[]) rfl
  have k5 := Blk.cell (HB.out.nth 0 rfl) 5 (v := .func (.func 74) #[] #[]) rfl
  have k6 := Blk.cell (HB.out.nth 0 rfl) 6 (v := .func (.func 75) #[] #[]) rfl
  have k7 := Blk.cell (HB.out.nth 0 rfl) 7 (v := .func (.func 76) #[] #[]) rfl
  go_enter Tryz.func31, Tryz.ntmps31
  go_wp2_with fail
  (with_reducible refine (kk _).mono ?_); rintro e1 W1 ⟨rfl, rfl⟩
  go_wp2_with fail
  refine wp_loop_rounds 3 ?_
  rw [rounds_succ]
  go_wp2_with fail
  (with_reducible refine (km _).mono ?_); rintro e1 W2 ⟨rfl, rfl⟩
  have HB2 := Lib.hid (HB.out.newAt (w.heap.size + 1 + 1) 83 #[.func (.func 69) #[] #[], .func (.func 70) #[] #[], .func (.func 71) #[] #[], .func (.func 72) #[] #[]] (by simp))
  have e0 := Blk.cell (HB2.out.nth 0 rfl) 0 (v := .func (.func 69) #[] #[]) rfl
  have e1 := Blk.cell (HB2.out.nth 0 rfl) 1 (v := .func (.func 70) #[] #[]) rfl
  have e2 := Blk.cell (HB2.out.nth 0 rfl) 2 (v := .func (.func 71) #[] #[]) rfl
  have e3 := Blk.cell (HB2.out.nth 0 rfl) 3 (v := .func (.func 72) #[] #[]) rfl
  clear HB k0 k1 k2 k3 k4 k5 k6 k7
  go_wp2_with (refine wpList_store_blk (g := w.heap.size) (T := 83) (cs' := #[.func (.func 69) #[] #[], .func (.func 70) #[] #[], .func (.func 71) #[] #[], .func (.func 72) #[] #[]]) rfl 83 _ _ rfl rfl rfl (HB2.out.nth 2 rfl) (by kernel_rfl) (by kernel_rfl) (by kernel_rfl) (by kernel_rfl) ?_; intro W9 hW9 hg9 hz9)
  have hVE := HB2.out.be.trans (below_of_only hg9 HB2.out.be.size (fun k hk => by injection hk with hk; omega))
  exact bodyPost_ret (v := .tuple #[.agg #[.func (.func 69) #[] #[], .func (.func 70) #[] #[], .func (.func 71) #[] #[], .func (.func 72) #[] #[]], .bool true]) (by refine res_row (fn := Tryz.f31) (p := 2) (q := 3) rfl _ _ w.heap.size 83 _ (0, 0) _ ?_ hW9 Tryz.underlying83 rfl (by kernel_rfl); rfl) rfl ⟨by rfl, hVE⟩
theorem find_f (t : ByteArray) (w : World) (h : isM t = false) (h2 : isF t = true) : Calls Tryz.prog 31 #[.string t] w fun e w' => e = .returned (.tuple #[.agg KF, .bool true]) ∧ Below w.heap.size w w' := by
  have kk := fun V => kinds_any V
  have km := fun V => MpD.is_any t V
  have kf := fun V => FcD.is_any t V
  unfold isM at h
  unfold isF at h2
  rw [h] at km
  rw [h2] at kf
  clear h h2
  have HB := Lib.hid (bk2 w 83 83 #[.nilFunc, .nilFunc, .nilFunc, .nilFunc] #[.func (.func 69) #[] #[], .func (.func 70) #[] #[], .func (.func 71) #[] #[], .func (.func 72) #[] #[], .func (.func 73) #[] #[], .func (.func 74) #[] #[], .func (.func 75) #[] #[], .func (.func 76) #[] #[]])
  have k0 := Blk.cell (HB.out.nth 0 rfl) 0 (v := .func (.func 69) #[] #[]) rfl
  have k1 := Blk.cell (HB.out.nth 0 rfl) 1 (v := .func (.func 70) #[] #[]) rfl
  have k2 := Blk.cell (HB.out.nth 0 rfl) 2 (v := .func (.func 71) #[] #[]) rfl
  have k3 := Blk.cell (HB.out.nth 0 rfl) 3 (v := .func (.func 72) #[] #[]) rfl
  have k4 := Blk.cell (HB.out.nth 0 rfl) 4 (v := .func (.func 73) #[] #[]) rfl
  have k5 := Blk.cell (HB.out.nth 0 rfl) 5 (v := .func (.func 74) #[] #[]) rfl
  have k6 := Blk.cell (HB.out.nth 0 rfl) 6 (v := .func (.func 75) #[] #[]) rfl
  have k7 := Blk.cell (HB.out.nth 0 rfl) 7 (v := .func (.func 76) #[] #[]) rfl
  go_enter Tryz.func31, Tryz.ntmps31
  go_wp2_with fail
  (with_reducible refine (kk _).mono ?_); rintro e1 W1 ⟨rfl, rfl⟩
  go_wp2_with fail
  refine wp_loop_rounds 3 ?_
  rw [rounds_succ]
  go_wp2_with fail
  (with_reducible refine (km _).mono ?_); rintro e1 W2 ⟨rfl, rfl⟩
  have HB2 := Lib.hid (HB.out.newAt (w.heap.size + 1 + 1) 83 #[.func (.func 69) #[] #[], .func (.func 70) #[] #[], .func (.func 71) #[] #[], .func (.func 72) #[] #[]] (by simp))
  have e0 := Blk.cell (HB2.out.nth 1 rfl) 0 (v := .func (.func 69) #[] #[]) rfl
  have e1 := Blk.cell (HB2.out.nth 1 rfl) 1 (v := .func (.func 70) #[] #[]) rfl
  have e2 := Blk.cell (HB2.out.nth 1 rfl) 2 (v := .func (.func 71) #[] #[]) rfl
  have e3 := Blk.cell (HB2.out.nth 1 rfl) 3 (v := .func (.func 72) #[] #[]) rfl
  have e4 := Blk.cell (HB2.out.nth 1 rfl) 4 (v := .func (.func 73) #[] #[]) rfl
  have e5 := Blk.cell (HB2.out.nth 1 rfl) 5 (v := .func (.func 74) #[] #[]) rfl
  have e6 := Blk.cell (HB2.out.nth 1 rfl) 6 (v := .func (.func 75) #[] #[]) rfl
  have e7 := Blk.cell (HB2.out.nth 1 rfl) 7 (v := .func (.func 76) #[] #[]) rfl
  clear HB k0 k1 k2 k3 k4 k5 k6 k7
  go_wp2_with fail
  rw [rounds_succ]
  go_wp2_with fail
  (with_reducible refine (kf _).mono ?_); rintro e1 W2 ⟨rfl, rfl⟩
  have HB3 := Lib.hid (HB2.out.newAt (w.heap.size + 1 + 1 + 1) 83 #[.func (.func 73) #[] #[], .func (.func 74) #[] #[], .func (.func 75) #[] #[], .func (.func 76) #[] #[]] (by simp))
  clear e0 e1 e2 e3 e4 e5 e6 e7
  have e0 := Blk.cell (HB3.out.nth 0 rfl) 0 (v := .func (.func 73) #[] #[]) rfl
  have e1 := Blk.cell (HB3.out.nth 0 rfl) 1 (v := .func (.func 74) #[] #[]) rfl
  have e2 := Blk.cell (HB3.out.nth 0 rfl) 2 (v := .func (.func 75) #[] #[]) rfl
  have e3 := Blk.cell (HB3.out.nth 0 rfl) 3 (v := .func (.func 76) #[] #[]) rfl
  clear HB2
  go_wp2_with (refine wpList_store_blk (g := w.heap.size) (T := 83) (cs' := #[.func (.func 73) #[] #[], .func (.func 74) #[] #[], .func (.func 75) #[] #[], .func (.func 76) #[] #[]]) rfl 83 _ _ rfl rfl rfl (HB3.out.nth 3 rfl) (by kernel_rfl) (by kernel_rfl) (by kernel_rfl) (by kernel_rfl) ?_; intro W9 hW9 hg9 hz9)
  have hVE := HB3.out.be.trans (below_of_only hg9 HB3.out.be.size (fun k hk => by injection hk with hk; omega))
  exact bodyPost_ret (v := .tuple #[.agg #[.func (.func 73) #[] #[], .func (.func 74) #[] #[], .func (.func 75) #[] #[], .func (.func 76) #[] #[]], .bool true]) (by refine res_row (fn := Tryz.f31) (p := 2) (q := 3) rfl _ _ w.heap.size 83 _ (0, 0) _ ?_ hW9 Tryz.underlying83 rfl (by kernel_rfl); rfl) rfl ⟨by rfl, hVE⟩
theorem find_z (t : ByteArray) (w : World) (h : isM t = false) (h2 : isF t = false) : Calls Tryz.prog 31 #[.string t] w fun e w' => e = .returned (.tuple #[.agg KZ, .bool false]) ∧ Below w.heap.size w w' := by
  have kk := fun V => kinds_any V
  have km := fun V => MpD.is_any t V
  have kf := fun V => FcD.is_any t V
  unfold isM at h
  unfold isF at h2
  rw [h] at km
  rw [h2] at kf
  clear h h2
  have HB := Lib.hid (bk2 w 83 83 #[.nilFunc, .nilFunc, .nilFunc, .nilFunc] #[.func (.func 69) #[] #[], .func (.func 70) #[] #[], .func (.func 71) #[] #[], .func (.func 72) #[] #[], .func (.func 73) #[] #[], .func (.func 74) #[] #[], .func (.func 75) #[] #[], .func (.func 76) #[] #[]])
  have k0 := Blk.cell (HB.out.nth 0 rfl) 0 (v := .func (.func 69) #[] #[]) rfl
  have k1 := Blk.cell (HB.out.nth 0 rfl) 1 (v := .func (.func 70) #[] #[]) rfl
  have k2 := Blk.cell (HB.out.nth 0 rfl) 2 (v := .func (.func 71) #[] #[]) rfl
  have k3 := Blk.cell (HB.out.nth 0 rfl) 3 (v := .func (.func 72) #[] #[]) rfl
  have k4 := Blk.cell (HB.out.nth 0 rfl) 4 (v := .func (.func 73) #[] #[]) rfl
  have k5 := Blk.cell (HB.out.nth 0 rfl) 5 (v := .func (.func 74) #[] #[]) rfl
  have k6 := Blk.cell (HB.out.nth 0 rfl) 6 (v := .func (.func 75) #[] #[]) rfl
  have k7 := Blk.cell (HB.out.nth 0 rfl) 7 (v := .func (.func 76) #[] #[]) rfl
  go_enter Tryz.func31, Tryz.ntmps31
  go_wp2_with fail
  (with_reducible refine (kk _).mono ?_); rintro e1 W1 ⟨rfl, rfl⟩
  go_wp2_with fail
  refine wp_loop_rounds 3 ?_
  rw [rounds_succ]
  go_wp2_with fail
  (with_reducible refine (km _).mono ?_); rintro e1 W2 ⟨rfl, rfl⟩
  have HB2 := Lib.hid (HB.out.newAt (w.heap.size + 1 + 1) 83 #[.func (.func 69) #[] #[], .func (.func 70) #[] #[], .func (.func 71) #[] #[], .func (.func 72) #[] #[]] (by simp))
  have e0 := Blk.cell (HB2.out.nth 1 rfl) 0 (v := .func (.func 69) #[] #[]) rfl
  have e1 := Blk.cell (HB2.out.nth 1 rfl) 1 (v := .func (.func 70) #[] #[]) rfl
  have e2 := Blk.cell (HB2.out.nth 1 rfl) 2 (v := .func (.func 71) #[] #[]) rfl
  have e3 := Blk.cell (HB2.out.nth 1 rfl) 3 (v := .func (.func 72) #[] #[]) rfl
  have e4 := Blk.cell (HB2.out.nth 1 rfl) 4 (v := .func (.func 73) #[] #[]) rfl
  have e5 := Blk.cell (HB2.out.nth 1 rfl) 5 (v := .func (.func 74) #[] #[]) rfl
  have e6 := Blk.cell (HB2.out.nth 1 rfl) 6 (v := .func (.func 75) #[] #[]) rfl
  have e7 := Blk.cell (HB2.out.nth 1 rfl) 7 (v := .func (.func 76) #[] #[]) rfl
  clear HB k0 k1 k2 k3 k4 k5 k6 k7
  go_wp2_with fail
  rw [rounds_succ]
  go_wp2_with fail
  (with_reducible refine (kf _).mono ?_); rintro e1 W2 ⟨rfl, rfl⟩
  have HB3 := Lib.hid (HB2.out.newAt (w.heap.size + 1 + 1 + 1) 83 #[.func (.func 73) #[] #[], .func (.func 74) #[] #[], .func (.func 75) #[] #[], .func (.func 76) #[] #[]] (by simp))
  clear e0 e1 e2 e3 e4 e5 e6 e7 HB2
  go_wp2_with fail
  rw [rounds_succ]
  go_wp2_with (refine wpList_store_blk (g := w.heap.size) (T := 83) (cs' := #[.nilFunc, .nilFunc, .nilFunc, .nilFunc]) rfl 83 _ _ rfl rfl rfl (HB3.out.nth 3 rfl) (by kernel_rfl) (by kernel_rfl) (by kernel_rfl) (by kernel_rfl) ?_; intro W9 hW9 hg9 hz9)
  have hVE := HB3.out.be.trans (below_of_only hg9 HB3.out.be.size (fun k hk => by injection hk with hk; omega))
  exact bodyPost_ret (v := .tuple #[.agg #[.nilFunc, .nilFunc, .nilFunc, .nilFunc], .bool false]) (by refine res_row (fn := Tryz.f31) (p := 2) (q := 3) rfl _ _ w.heap.size 83 _ (0, 0) _ ?_ hW9 Tryz.underlying83 rfl (by kernel_rfl); rfl) rfl ⟨by rfl, hVE⟩
end Go.Proofs.YthgcmlhmhojjhaaGreatDoor.BuA
