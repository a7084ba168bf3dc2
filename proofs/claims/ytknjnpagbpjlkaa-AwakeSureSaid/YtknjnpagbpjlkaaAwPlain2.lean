/- More plain facts of layer 21: what Next, in a row, does to now, spent, and the configuration. -/
import Derived.Test.YtknjnpagbpjlkaaAwPlain
namespace Go.Proofs.Ytknjnpagbpjlkaa.Aw

theorem steps_add (m : M) (n : Nat) : ∀ k, (m.steps n).steps k = m.steps (n + k)
  | 0 => rfl
  | k + 1 => by show ((m.steps n).steps k).next = _; rw [steps_add m n k]; rfl

section
variable (m : M)
theorem reset_keeps : m.reset.now = m.now ∧ m.reset.spent = m.spent ∧ m.reset.missed = m.missed ∧ m.reset.unit = m.unit ∧ m.reset.guard = m.guard ∧ m.reset.burst = m.burst ∧ m.reset.pat = m.pat := ⟨rfl, rfl, rfl, rfl, rfl, rfl, rfl⟩
theorem rest_keeps : m.rest.now = m.now ∧ m.rest.spent = m.spent ∧ m.rest.missed = m.missed ∧ m.rest.unit = m.unit ∧ m.rest.guard = m.guard ∧ m.rest.burst = m.burst ∧ m.rest.pat = m.pat := by
  unfold M.rest
  split <;> exact ⟨rfl, rfl, rfl, rfl, rfl, rfl, rfl⟩
theorem expire_keeps : m.expire.now = m.now ∧ m.expire.spent = m.spent ∧ m.expire.unit = m.unit ∧ m.expire.guard = m.guard ∧ m.expire.burst = m.burst ∧ m.expire.pat = m.pat := by
  unfold M.expire
  split <;> exact ⟨rfl, rfl, rfl, rfl, rfl, rfl⟩
theorem settle2_keeps : m.settle2.now = m.now ∧ m.settle2.spent = m.spent ∧ m.settle2.unit = m.unit ∧ m.settle2.guard = m.guard ∧ m.settle2.burst = m.burst ∧ m.settle2.pat = m.pat := by
  unfold M.settle2
  split
  · split
    · exact ⟨rfl, rfl, rfl, rfl, rfl, rfl⟩
    · exact expire_keeps _
  · split
    · exact expire_keeps _
    · exact ⟨rfl, rfl, rfl, rfl, rfl, rfl⟩
theorem settle_keeps : m.settle.now = m.now ∧ m.settle.spent = m.spent ∧ m.settle.unit = m.unit ∧ m.settle.guard = m.guard ∧ m.settle.burst = m.burst ∧ m.settle.pat = m.pat := by
  unfold M.settle
  split
  · obtain ⟨a1, a2, _, a4, a5, a6, a7⟩ := rest_keeps m
    obtain ⟨b1, b2, b4, b5, b6, b7⟩ := settle2_keeps m.rest
    exact ⟨b1.trans a1, b2.trans a2, b4.trans a4, b5.trans a5, b6.trans a6, b7.trans a7⟩
  · exact settle2_keeps m
theorem next_now (h : m.now < 1099511627775) : m.next.now = m.now + 1 := by
  unfold M.next
  rw [if_neg (by omega)]
  exact (settle_keeps m.tick).1
theorem next_spent : m.spent ≤ m.next.spent ∧ m.next.spent ≤ m.spent + 1 := by
  unfold M.next
  split
  · omega
  · rw [(settle_keeps m.tick).2.1]
    unfold M.tick
    split <;> simp only <;> omega
theorem next_cfg : m.next.unit = m.unit ∧ m.next.guard = m.guard ∧ m.next.burst = m.burst ∧ m.next.pat = m.pat := by
  unfold M.next
  split
  · exact ⟨rfl, rfl, rfl, rfl⟩
  · exact (settle_keeps m.tick).2.2
theorem steps_now (n : Nat) (h : m.now + n ≤ 1099511627775) : (m.steps n).now = m.now + n := by
  induction n with
  | zero => simp [M.steps]
  | succ n ih =>
    have h1 := ih (by omega)
    show ((m.steps n).next).now = _
    rw [next_now _ (by omega)]
    omega
theorem steps_spent (n : Nat) : m.spent ≤ (m.steps n).spent ∧ (m.steps n).spent ≤ m.spent + n := by
  induction n with
  | zero => simp [M.steps]
  | succ n ih =>
    have := next_spent (m.steps n)
    show m.spent ≤ ((m.steps n).next).spent ∧ ((m.steps n).next).spent ≤ _
    omega
theorem enter_keeps : m.enter.now = m.now ∧ m.enter.spent = m.spent ∧ m.enter.missed = m.missed ∧ m.enter.unit = m.unit ∧ m.enter.guard = m.guard ∧ m.enter.burst = m.burst ∧ m.enter.pat = m.pat := by
  unfold M.enter
  split <;> exact ⟨rfl, rfl, rfl, rfl, rfl, rfl, rfl⟩
theorem know_keeps (d : Int) : (m.know d).now = m.now ∧ (m.know d).spent = m.spent ∧ (m.know d).missed = m.missed ∧ (m.know d).unit = m.unit ∧ (m.know d).guard = m.guard ∧ (m.know d).burst = m.burst ∧ (m.know d).pat = m.pat := by
  unfold M.know
  split <;> exact ⟨rfl, rfl, rfl, rfl, rfl, rfl, rfl⟩
theorem hear_keeps (d : Int) (fr : Bool) : (m.hear d fr).now = m.now ∧ (m.hear d fr).spent = m.spent ∧ (m.hear d fr).unit = m.unit ∧ (m.hear d fr).guard = m.guard ∧ (m.hear d fr).burst = m.burst ∧ (m.hear d fr).pat = m.pat := by
  unfold M.hear
  obtain ⟨a1, a2, _, a4, a5, a6, a7⟩ := enter_keeps m
  obtain ⟨b1, b2, _, b4, b5, b6, b7⟩ := know_keeps m.enter d
  split
  · obtain ⟨c1, c2, _, c4, c5, c6, c7⟩ := rest_keeps (m.enter.know d)
    obtain ⟨d1, d2, d4, d5, d6, d7⟩ := settle_keeps (m.enter.know d).rest
    exact ⟨d1.trans (c1.trans (b1.trans a1)), d2.trans (c2.trans (b2.trans a2)), d4.trans (c4.trans (b4.trans a4)), d5.trans (c5.trans (b5.trans a5)), d6.trans (c6.trans (b6.trans a6)), d7.trans (c7.trans (b7.trans a7))⟩
  · exact ⟨b1.trans a1, b2.trans a2, b4.trans a4, b5.trans a5, b6.trans a6, b7.trans a7⟩
theorem heard_keeps (d a : Int) (fr : Bool) : (m.heard d fr a).now = m.now ∧ (m.heard d fr a).spent = m.spent ∧ (m.heard d fr a).unit = m.unit ∧ (m.heard d fr a).guard = m.guard ∧ (m.heard d fr a).burst = m.burst ∧ (m.heard d fr a).pat = m.pat := by
  unfold M.heard
  split
  · exact hear_keeps m d fr
  · exact ⟨rfl, rfl, rfl, rfl, rfl, rfl⟩
end
end Go.Proofs.Ytknjnpagbpjlkaa.Aw
