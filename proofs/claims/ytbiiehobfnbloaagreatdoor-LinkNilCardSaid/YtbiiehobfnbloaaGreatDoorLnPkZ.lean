import Derived.Test.YtbiiehobfnbloaaGreatDoorChecked
import Derived.WalkKit
import Derived.WalkSpells
import Derived.WalkLawsBesides
import Derived.Deep.QuietTactic
import Derived.BigQuiet
import Derived.Deep.Light
import Derived.Test.YtbiiehobfnbloaaGreatDoorLnPkA
import Derived.StillTailTactics
import Derived.Deep.RegionHeld3
import Derived.Lib.Hide
import Derived.Handy
namespace Go.Proofs.YtbiiehobfnbloaaGreatDoor.Aw
structure M where
  unit : Int
  guard : Int
  burst : Int
  pat : Int
  now : Int
  state : Int
  begun : Int
  wake : Int
  last : Int
  spent : Int
  missed : Int
def cfg (unit guard burst pat : Int) : Bool :=
  decide (1 ≤ unit ∧ unit ≤ 1048576 ∧ 0 ≤ guard ∧ guard ≤ 1048576 ∧ 1 ≤ burst ∧ burst ≤ 1048576 ∧ 1 ≤ pat ∧ pat ≤ 1048576 ∧ burst ≤ pat)
def M.reset (m : M) : M := ⟨m.unit, m.guard, m.burst, m.pat, m.now, 1, m.begun, 0, 0, m.spent, m.missed⟩
def M.setState (m : M) (s : Int) : M := ⟨m.unit, m.guard, m.burst, m.pat, m.now, s, m.begun, m.wake, m.last, m.spent, m.missed⟩
def M.rest (m : M) : M := if m.wake = 0 ∧ m.last = 0 then m.reset else m.setState 2
def M.enter (m : M) : M := if m.state = 4 then m else ⟨m.unit, m.guard, m.burst, m.pat, m.now, 4, m.now, m.wake, m.last, m.spent, m.missed⟩
end Go.Proofs.YtbiiehobfnbloaaGreatDoor.Aw
namespace Go.Proofs.YtbiiehobfnbloaaGreatDoor.AwA
open Go.RowKit
theorem ret_i64 {a b : Int} (h : a = b) : Ending.returned (.int .i64 a) = Ending.returned (.int .i64 b) := by rw [h]
end Go.Proofs.YtbiiehobfnbloaaGreatDoor.AwA
namespace Go.Proofs.YtbiiehobfnbloaaGreatDoor.AwB
open Go.RowKit Mem AwA
def cells (m : Aw.M) : Array Value := #[.int .i64 m.unit, .int .i64 m.guard, .int .i64 m.burst, .int .i64 m.pat, .int .i64 m.now, .int .i64 m.state, .int .i64 m.begun, .int .i64 m.wake, .int .i64 m.last, .int .i64 m.spent, .int .i64 m.missed]
def At (w : World) (g : Nat) (m : Aw.M) : Prop := Blk w g 277 (cells m)
theorem awake_any (m : Aw.M) (g : Nat) (w : World) (hm : At w g m) : Calls Tryz.prog 85 #[.pointer (some ⟨g, 0, none⟩)] w fun e w' => e = .returned (.bool (m.state != 2)) ∧ w = w' := by
  have c5 := Blk.cell hm 5 (v := .int .i64 m.state) rfl
  go_enter Tryz.func85, Tryz.ntmps85
  go_wp2
  all_goals go_ret
  all_goals exact ⟨rfl, rfl⟩
structure Turned (w w' : World) (g : Nat) (m : Aw.M) : Prop where
  at_ : At w' g m
  only : w.grownBy w' (some g)
theorem Turned.trans {a b c : World} {g : Nat} {m m' : Aw.M} (h : Turned a b g m) (k : Turned b c g m') : Turned a c g m' := ⟨k.1, only_trans h.2 k.2⟩
theorem turned_state (m : Aw.M) (g : Nat) (w : World) (hm : At w g m) (s : Int) : Turned w (w.setCell ⟨g, 5, none⟩ (.int .i64 s)) g (m.setState s) :=
  ⟨hm.set_ 5 (.int .i64 s), only_set (only_refl _ _) _ _⟩
theorem Turned.refl {w : World} {g : Nat} {m : Aw.M} (hm : At w g m) : Turned w w g m := ⟨hm, only_refl _ _⟩
theorem Turned.drewN {w w' : World} {g : Nat} {m : Aw.M} (h : Turned w w' g m) (n : Nat) : Turned w (w'.drewN n) g m := ⟨h.1, only_drewN h.2 n⟩
theorem Turned.state {w w' : World} {g : Nat} {m : Aw.M} (h : Turned w w' g m) (s : Int) : Turned w (w'.setCell ⟨g, 5, none⟩ (.int .i64 s)) g (m.setState s) :=
  h.trans (turned_state m g w' h.1 s)
theorem At.drewN {w : World} {g : Nat} {m : Aw.M} (h : At w g m) (n : Nat) : At (w.drewN n) g m := h
end Go.Proofs.YtbiiehobfnbloaaGreatDoor.AwB
namespace Go.Proofs.YtbiiehobfnbloaaGreatDoor.AwC
open Go.RowKit Q Mem AwA AwB
end Go.Proofs.YtbiiehobfnbloaaGreatDoor.AwC
namespace Go.Proofs.YtbiiehobfnbloaaGreatDoor.AwD
open Go.RowKit Q Mem AwA AwB AwC
def wakeAt (m : Aw.M) (x : Int) : Aw.M := ⟨m.unit, m.guard, m.burst, m.pat, m.now, m.state, m.begun, x, m.last, m.spent, m.missed⟩
def lastAt (m : Aw.M) (x : Int) : Aw.M := ⟨m.unit, m.guard, m.burst, m.pat, m.now, m.state, m.begun, m.wake, x, m.spent, m.missed⟩
theorem turned_wake (m : Aw.M) (g : Nat) (w : World) (hm : At w g m) (x : Int) : Turned w (w.setCell ⟨g, 7, none⟩ (.int .i64 x)) g (wakeAt m x) :=
  ⟨Blk.set_ hm 7 _, only_set (only_refl _ _) _ _⟩
theorem turned_last (m : Aw.M) (g : Nat) (w : World) (hm : At w g m) (x : Int) : Turned w (w.setCell ⟨g, 8, none⟩ (.int .i64 x)) g (lastAt m x) :=
  ⟨Blk.set_ hm 8 _, only_set (only_refl _ _) _ _⟩
theorem Turned.alloc {w w' : World} {g : Nat} {m : Aw.M} (h : Turned w w' g m) (o : Obj) : Turned w (w'.alloc o) g m := ⟨Blk.alloc h.at_ o, only_alloc h.only o⟩
structure Hears (w W : World) (g : Nat) (m : Aw.M) (d a : Int) (tb fr : Bool) : Prop where
  t : Turned w W g m
  b : Blk W w.heap.size 222 #[.int .i64 d, .bool tb, .bool fr, .int .i64 a]
theorem Hears.wake {w W : World} {g : Nat} {m : Aw.M} {d a : Int} {tb fr : Bool} (h : Hears w W g m d a tb fr) (hg : g < w.heap.size) (x : Int) : Hears w (W.setCell ⟨g, 7, none⟩ (.int .i64 x)) g (wakeAt m x) d a tb fr :=
  ⟨h.t.trans (turned_wake m g W h.t.at_ x), Blk.far h.b (by simp; omega) _⟩
theorem Hears.last {w W : World} {g : Nat} {m : Aw.M} {d a : Int} {tb fr : Bool} (h : Hears w W g m d a tb fr) (hg : g < w.heap.size) (x : Int) : Hears w (W.setCell ⟨g, 8, none⟩ (.int .i64 x)) g (lastAt m x) d a tb fr :=
  ⟨h.t.trans (turned_last m g W h.t.at_ x), Blk.far h.b (by simp; omega) _⟩
theorem Turned.drew {w w' : World} {g : Nat} {m : Aw.M} (h : Turned w w' g m) : Turned w w'.drew g m := ⟨h.1, only_drew h.2⟩
end Go.Proofs.YtbiiehobfnbloaaGreatDoor.AwD
namespace Go.Proofs.YtbiiehobfnbloaaGreatDoor.Aw
end Go.Proofs.YtbiiehobfnbloaaGreatDoor.Aw
namespace Go.Proofs.YtbiiehobfnbloaaGreatDoor.AwE
open Go.RowKit Q Mem AwA AwB AwC AwD
def cfgE (u g b p : Int) : Int := if Aw.cfg u g b p then 0 else 23
theorem cfgE_no (u g b p : Int) (h : ¬ (1 ≤ u ∧ u ≤ 1048576 ∧ 0 ≤ g ∧ g ≤ 1048576 ∧ 1 ≤ b ∧ b ≤ 1048576 ∧ 1 ≤ p ∧ p ≤ 1048576 ∧ b ≤ p)) : 23 = cfgE u g b p := by
  unfold cfgE Aw.cfg; rw [decide_eq_false h]; rfl
theorem cfgE_yes (u g b p : Int) (h : 1 ≤ u ∧ u ≤ 1048576 ∧ 0 ≤ g ∧ g ≤ 1048576 ∧ 1 ≤ b ∧ b ≤ 1048576 ∧ 1 ≤ p ∧ p ≤ 1048576 ∧ b ≤ p) : 0 = cfgE u g b p := by
  unfold cfgE Aw.cfg; rw [decide_eq_true h]; rfl
set_option maxHeartbeats 1000000 in
theorem check_any (u g b p : Int) (w : World) (hu : -9223372036854775808 ≤ u ∧ u ≤ 9223372036854775807) (hg : -9223372036854775808 ≤ g ∧ g ≤ 9223372036854775807) (hb : -9223372036854775808 ≤ b ∧ b ≤ 9223372036854775807) (hp : -9223372036854775808 ≤ p ∧ p ≤ 9223372036854775807) :
    Calls Tryz.prog 101 #[.agg #[.int .i64 u, .int .i64 g, .int .i64 b, .int .i64 p]] w fun e w' => e = .returned (.int .i64 (cfgE u g b p)) ∧ w.alloc (.cells #[.int .i64 u, .int .i64 g, .int .i64 b, .int .i64 p] 107) = w' := by
  have i0 : ∀ (x0 x1 x2 x3 x4 : Value) w, (Instr.index 290 (.agg #[x0, x1, x2, x3, x4]) (.int .i64 0)).run Tryz.prog w = .ok x0 w := fun _ _ _ _ _ _ => by kernel_rfl
  have i1 : ∀ (x0 x1 x2 x3 x4 : Value) w, (Instr.index 290 (.agg #[x0, x1, x2, x3, x4]) (.int .i64 1)).run Tryz.prog w = .ok x1 w := fun _ _ _ _ _ _ => by kernel_rfl
  have i2 : ∀ (x0 x1 x2 x3 x4 : Value) w, (Instr.index 290 (.agg #[x0, x1, x2, x3, x4]) (.int .i64 2)).run Tryz.prog w = .ok x2 w := fun _ _ _ _ _ _ => by kernel_rfl
  have i3 : ∀ (x0 x1 x2 x3 x4 : Value) w, (Instr.index 290 (.agg #[x0, x1, x2, x3, x4]) (.int .i64 3)).run Tryz.prog w = .ok x3 w := fun _ _ _ _ _ _ => by kernel_rfl
  have i4 : ∀ (x0 x1 x2 x3 x4 : Value) w, (Instr.index 290 (.agg #[x0, x1, x2, x3, x4]) (.int .i64 4)).run Tryz.prog w = .ok x4 w := fun _ _ _ _ _ _ => by kernel_rfl
  go_enter Tryz.func101, Tryz.ntmps101
  go_wp2
  go_rounds 6
  all_goals (go_ret; refine ⟨ret_i64 ?_, rfl⟩; clear i0 i1 i2 i3 i4; go_light)
  all_goals (first | refine cfgE_no _ _ _ _ ?_ | refine cfgE_yes _ _ _ _ ?_)
  all_goals ((try unfold wrap64 at *); omega)
end Go.Proofs.YtbiiehobfnbloaaGreatDoor.AwE
