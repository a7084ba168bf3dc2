/- Walks over layer 21: the chapter's example. -/
import Derived.Test.YtknjnpagbpjlkaaAwE
namespace Go.Proofs.Ytknjnpagbpjlkaa.AwF
open Go.RowKit Go.Proofs.Ytknjnpagbpjlkaa.Q Go.Proofs.Ytknjnpagbpjlkaa.Mem Go.Proofs.Ytknjnpagbpjlkaa.AwA Go.Proofs.Ytknjnpagbpjlkaa.AwB Go.Proofs.Ytknjnpagbpjlkaa.AwC Go.Proofs.Ytknjnpagbpjlkaa.AwD Go.Proofs.Ytknjnpagbpjlkaa.AwE

def m0 : Aw.M := Aw.start 10 2 5 5
def m1 : Aw.M := m0.heard 3 true 0
def m2 : Aw.M := m1.next
def m3 : Aw.M := m2.steps 18
theorem m0_inv : m0.Inv := Aw.inv_start (by decide)
theorem m1_inv : m1.Inv := Aw.heard_inv _ m0_inv _ _ _
theorem m2_inv : m2.Inv := Aw.next_inv _ m1_inv
theorem m0_e : m0.heardE 3 0 = 0 := by decide
theorem m0_s : (m0.state != 2) = true := by decide
theorem m1_w : m1.wake = 19 := by decide
theorem m1_l : m1.last = 30 := by decide
theorem m2_s : m2.state = 2 := by decide
theorem m3_s : m3.state = 3 := by decide
theorem m3_n : m3.now = 19 := by decide

set_option maxHeartbeats 1000000 in
theorem example_any (w : World) : Calls Try.prog 10 #[] w fun e w' => e = .returned (.bool true) ∧ Below w.heap.size w w' := by
  have f0 : ∀ (x0 x1 x2 x3 x4 x5 : Value) w, (Instr.field 50 (.agg #[x0, x1, x2, x3, x4, x5]) 0).run Try.prog w = .ok x0 w := fun _ _ _ _ _ _ _ => by kernel_rfl
  have f1 : ∀ (x0 x1 x2 x3 x4 x5 : Value) w, (Instr.field 50 (.agg #[x0, x1, x2, x3, x4, x5]) 1).run Try.prog w = .ok x1 w := fun _ _ _ _ _ _ _ => by kernel_rfl
  go_enter Try.func10, Try.ntmps10
  go_wp2_with fail
  (with_reducible refine (new_ok 10 2 5 5 _ (by omega) (by omega) (by omega) (by omega) (by decide)).mono ?_); rintro e w1 ⟨g, hg, rfl, hm, hb⟩
  go_wp2_with fail
  have k1 := awake_any _ g w1 hm
  rw [show ((Aw.start 10 2 5 5).state != 2) = true from rfl] at k1
  (with_reducible refine (k1).mono ?_); rintro e w2 ⟨rfl, rfl⟩
  go_wp2_with fail
  have k2 := heard_any _ g 3 0 false true w1 hm m0_inv
  rw [show (Aw.start 10 2 5 5).heardE 3 0 = 0 from m0_e] at k2
  (with_reducible refine (k2).mono ?_); rintro e w2 ⟨rfl, t2⟩
  clear k1 k2
  have t2 : Turned w1 w2 g m1 := t2
  go_wp2_with fail
  have k3 := stat_any m1 g w2 t2.at_
  unfold stat at k3
  rw [m1_w, m1_l] at k3
  (with_reducible refine (k3).mono ?_); rintro e w3 ⟨rfl, b3⟩
  clear k3
  have h3 : At w3 g m1 := Blk.below t2.at_ b3 (Blk.lt t2.at_)
  have g3 : g < w3.heap.size := Blk.lt h3
  have hb3 : Below w.heap.size w w3 := (hb.trans (below_of_only t2.only hb.size (fun k hk => by cases hk; exact hg))).trans (b3.mono (Nat.le_trans hb.size t2.only.size))
  clear hb hm t2 b3
  go_wp2_with fail
  refine (next_any m1 g _ (by exact Blk.alloc h3 _) m1_inv).mono ?_
  rintro e w4 ⟨rfl, t4⟩
  have h4 : At w4 g m2 := t4.at_
  have q4 := Blk.grown (Blk.new w3 50 _) t4.only (by intro h; injection h with h; omega)
  have hb4 : Below w.heap.size w w4 := (hb3.alloc hb3.size _).trans (below_of_only t4.only (by have := hb3.size; simp; omega) (fun k hk => by cases hk; exact hg))
  have s4 : w3.heap.size < w4.heap.size := Blk.lt q4
  clear t4 hb3
  go_wp2_with fail
  have k5 := stat_any m2 g w4 h4
  unfold stat at k5
  rw [m2_s] at k5
  (with_reducible refine (k5).mono ?_); rintro e w5 ⟨rfl, b5⟩
  clear k5
  have h5 : At w5 g m2 := Blk.below h4 b5 (Blk.lt h4)
  have q5 := Blk.below q4 b5 s4
  have g5 : g < w5.heap.size := Blk.lt h5
  have hb5 : Below w.heap.size w w5 := hb4.trans (b5.mono hb4.size)
  have s5 : w3.heap.size < w5.heap.size := Blk.lt q5
  clear hb4 h4 q4 s4 b5
  go_wp2_with fail
  have k6 := fun o => skip_ok m2 g 18 (w5.alloc o) (Blk.alloc h5 o) m2_inv (by omega)
  rw [show ((18 : Nat) : Int) = 18 from rfl] at k6
  refine (k6 _).mono ?_
  rintro e w6 ⟨rfl, t6⟩
  have h6 : At w6 g m3 := t6.at_
  have q6 := Blk.grown (Blk.new w5 50 _) t6.only (by intro h; injection h with h; omega)
  have r6 := Blk.grown (Blk.alloc q5 _) t6.only (by intro h; injection h with h; omega)
  have hb6 : Below w.heap.size w w6 := (hb5.alloc hb5.size _).trans (below_of_only t6.only (by have := hb5.size; simp; omega) (fun k hk => by cases hk; exact hg))
  clear t6 k6 hb5
  have x2 := Blk.cell r6 2 (v := .int .i64 19) rfl
  have x3 := Blk.cell r6 3 (v := .int .i64 30) rfl
  have y1 := Blk.cell q6 1 (v := .int .i64 2) rfl
  clear q5 q6 r6
  go_wp2_with fail
  have k7 := fun w h => stat_any m3 g w h
  unfold stat at k7
  rw [m3_s, m3_n] at k7
  (with_reducible refine (k7 _ h6).mono ?_); rintro e w7 ⟨rfl, b7⟩
  have h7 : At w7 g m3 := Blk.below h6 b7 (Blk.lt h6)
  go_wp2_with fail
  (with_reducible refine (k7 _ h7).mono ?_); rintro e w8 ⟨rfl, b8⟩
  clear k7
  go_wp2
  go_ret
  exact ⟨rfl, (hb6.trans (b7.mono hb6.size)).trans (b8.mono (Nat.le_trans hb6.size b7.size))⟩
end Go.Proofs.Ytknjnpagbpjlkaa.AwF
