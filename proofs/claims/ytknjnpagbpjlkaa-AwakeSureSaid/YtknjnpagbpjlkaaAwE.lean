/- Walks over layer 21: Check, New, Skip. -/
import Derived.Test.YtknjnpagbpjlkaaAwD
import Derived.Test.YtknjnpagbpjlkaaAwPlain
import Derived.Handy
namespace Go.Proofs.Ytknjnpagbpjlkaa.AwE
open Go.RowKit Go.Proofs.Ytknjnpagbpjlkaa.Q Go.Proofs.Ytknjnpagbpjlkaa.Mem Go.Proofs.Ytknjnpagbpjlkaa.AwA Go.Proofs.Ytknjnpagbpjlkaa.AwB Go.Proofs.Ytknjnpagbpjlkaa.AwC Go.Proofs.Ytknjnpagbpjlkaa.AwD

def cfgE (u g b p : Int) : Int := if Aw.cfg u g b p then 0 else 23
theorem cfgE_no (u g b p : Int) (h : ¬ (1 ≤ u ∧ u ≤ 1048576 ∧ 0 ≤ g ∧ g ≤ 1048576 ∧ 1 ≤ b ∧ b ≤ 1048576 ∧ 1 ≤ p ∧ p ≤ 1048576 ∧ b ≤ p)) : 23 = cfgE u g b p := by
  unfold cfgE Aw.cfg; rw [decide_eq_false h]; rfl
theorem cfgE_yes (u g b p : Int) (h : 1 ≤ u ∧ u ≤ 1048576 ∧ 0 ≤ g ∧ g ≤ 1048576 ∧ 1 ≤ b ∧ b ≤ 1048576 ∧ 1 ≤ p ∧ p ≤ 1048576 ∧ b ≤ p) : 0 = cfgE u g b p := by
  unfold cfgE Aw.cfg; rw [decide_eq_true h]; rfl

set_option maxHeartbeats 1000000 in
theorem check_any (u g b p : Int) (w : World) (hu : -9223372036854775808 ≤ u ∧ u ≤ 9223372036854775807) (hg : -9223372036854775808 ≤ g ∧ g ≤ 9223372036854775807) (hb : -9223372036854775808 ≤ b ∧ b ≤ 9223372036854775807) (hp : -9223372036854775808 ≤ p ∧ p ≤ 9223372036854775807) :
    Calls Try.prog 13 #[.agg #[.int .i64 u, .int .i64 g, .int .i64 b, .int .i64 p]] w fun e w' => e = .returned (.int .i64 (cfgE u g b p)) ∧ w.alloc (.cells #[.int .i64 u, .int .i64 g, .int .i64 b, .int .i64 p] 23) = w' := by
  have i0 : ∀ (x0 x1 x2 x3 x4 : Value) w, (Instr.index 62 (.agg #[x0, x1, x2, x3, x4]) (.int .i64 0)).run Try.prog w = .ok x0 w := fun _ _ _ _ _ _ => by kernel_rfl
  have i1 : ∀ (x0 x1 x2 x3 x4 : Value) w, (Instr.index 62 (.agg #[x0, x1, x2, x3, x4]) (.int .i64 1)).run Try.prog w = .ok x1 w := fun _ _ _ _ _ _ => by kernel_rfl
  have i2 : ∀ (x0 x1 x2 x3 x4 : Value) w, (Instr.index 62 (.agg #[x0, x1, x2, x3, x4]) (.int .i64 2)).run Try.prog w = .ok x2 w := fun _ _ _ _ _ _ => by kernel_rfl
  have i3 : ∀ (x0 x1 x2 x3 x4 : Value) w, (Instr.index 62 (.agg #[x0, x1, x2, x3, x4]) (.int .i64 3)).run Try.prog w = .ok x3 w := fun _ _ _ _ _ _ => by kernel_rfl
  have i4 : ∀ (x0 x1 x2 x3 x4 : Value) w, (Instr.index 62 (.agg #[x0, x1, x2, x3, x4]) (.int .i64 4)).run Try.prog w = .ok x4 w := fun _ _ _ _ _ _ => by kernel_rfl
  go_enter Try.func13, Try.ntmps13
  go_wp2
  go_rounds 6
  all_goals (go_ret; refine ⟨ret_i64 ?_, rfl⟩; clear i0 i1 i2 i3 i4; go_light)
  all_goals (first | refine cfgE_no _ _ _ _ ?_ | refine cfgE_yes _ _ _ _ ?_)
  all_goals ((try unfold wrap64 at *); omega)

/-- a new machine, in a block that was not there -/
def NewOk (u g b p : Int) (w : World) (e : Ending) (w' : World) : Prop :=
  ∃ n, w.heap.size ≤ n ∧ e = .returned (.tuple #[.pointer (some ⟨n, 0, none⟩), .int .i64 0]) ∧ At w' n (Aw.start u g b p) ∧ Below w.heap.size w w'


set_option maxHeartbeats 400000 in
theorem new_ok (u g b p : Int) (w : World)
    (hu : -9223372036854775808 ≤ u ∧ u ≤ 9223372036854775807) (hg : -9223372036854775808 ≤ g ∧ g ≤ 9223372036854775807) (hb : -9223372036854775808 ≤ b ∧ b ≤ 9223372036854775807) (hp : -9223372036854775808 ≤ p ∧ p ≤ 9223372036854775807) :
    Aw.cfg u g b p = true → Calls Try.prog 11 #[.agg #[.int .i64 u, .int .i64 g, .int .i64 b, .int .i64 p]] w (NewOk u g b p w) := by
  intro h
  have k0 := check_any u g b p
  have e0 : cfgE u g b p = 0 := by unfold cfgE; rw [h]; rfl
  rw [e0] at k0
  clear h e0
  go_enter Try.func11, Try.ntmps11
  go_wp2_with (go_at_call 13; (with_reducible refine (k0 _ hu hg hb hp).mono ?_); rintro e w' ⟨rfl, rfl⟩)
  go_ret2
  exact ⟨w.heap.size + 1 + 1, by omega, rfl, Blk.newAt _ _ _ (by simp), (((Below.refl _ _).alloc (Nat.le_refl _) _).alloc (by simp) _).alloc (by simp; omega) _⟩
theorem new_no (u g b p : Int) (w : World)
    (hu : -9223372036854775808 ≤ u ∧ u ≤ 9223372036854775807) (hg : -9223372036854775808 ≤ g ∧ g ≤ 9223372036854775807) (hb : -9223372036854775808 ≤ b ∧ b ≤ 9223372036854775807) (hp : -9223372036854775808 ≤ p ∧ p ≤ 9223372036854775807) :
    Aw.cfg u g b p = false → Calls Try.prog 11 #[.agg #[.int .i64 u, .int .i64 g, .int .i64 b, .int .i64 p]] w fun e w' => e = .returned (.tuple #[.pointer none, .int .i64 23]) ∧ Below w.heap.size w w' := by
  intro h
  have k0 := check_any u g b p
  have e0 : cfgE u g b p = 23 := by unfold cfgE; rw [h]; rfl
  rw [e0] at k0
  clear h e0
  go_enter Try.func11, Try.ntmps11
  go_wp2_with (go_at_call 13; (with_reducible refine (k0 _ hu hg hb hp).mono ?_); rintro e w' ⟨rfl, rfl⟩)
  go_ret2
  exact ⟨rfl, ((Below.refl _ _).alloc (Nat.le_refl _) _).alloc (by simp) _⟩

theorem skip_nil (n : Int) (w : World) : Calls Try.prog 20 #[.pointer none, .int .i64 n] w fun e w' => e = .returned (.int .i64 2) ∧ w = w' := by
  go_enter Try.func20, Try.ntmps20
  go_wp2
  go_ret
  exact ⟨rfl, rfl⟩
theorem skip_bad (m : Aw.M) (g : Nat) (n : Int) (w : World) (hm : At w g m) (hn : ¬ (0 ≤ n ∧ n ≤ 1048576)) : Calls Try.prog 20 #[.pointer (some ⟨g, 0, none⟩), .int .i64 n] w fun e w' => e = .returned (.int .i64 15) ∧ Turned w w' g m := by
  go_enter Try.func20, Try.ntmps20
  go_wp2
  all_goals (go_ret; exact ⟨rfl, Turned.refl hm⟩)

set_option maxHeartbeats 400000 in
theorem skip_ok (m : Aw.M) (g n : Nat) (w : World) (hm : At w g m) (hi : m.Inv) (hn : n ≤ 1048576) : Calls Try.prog 20 #[.pointer (some ⟨g, 0, none⟩), .int .i64 n] w fun e w' => e = .returned (.int .i64 0) ∧ Turned w w' g (m.steps n) := by
  have hn0 : 0 ≤ (n : Int) := by omega
  have hn1 : (n : Int) ≤ 1048576 := by omega
  go_enter Try.func20, Try.ntmps20
  go_wp2
  go_loopw [16] (fun i wr => ∃ k : Nat, k ≤ n ∧ i = .int .i64 k ∧ Turned w wr g (m.steps k)) (fun i _ => n - (intOf i).toNat)
  case atStart => exact ⟨0, Nat.zero_le _, rfl, Turned.refl hm⟩
  case round =>
    obtain ⟨k, hk, rfl, ht⟩ := hrel
    by_cases hlt : k < n
    · go_wp2_with (go_at_call 16; (with_reducible refine (next_any _ g _ ht.at_ (Aw.steps_inv m hi k)).mono ?_); rintro e w1 ⟨rfl, t1⟩)
      go_roundw
      case rel => exact ⟨k + 1, by omega, by go_num, ht.trans t1⟩
      case measure => simp [intOf]; omega
    · obtain rfl : k = n := by omega
      go_wp2
      go_ret
      exact ⟨rfl, ht⟩
end Go.Proofs.Ytknjnpagbpjlkaa.AwE
