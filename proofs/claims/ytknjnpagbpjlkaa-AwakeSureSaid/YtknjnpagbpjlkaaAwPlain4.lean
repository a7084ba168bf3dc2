/- Plain facts for AwakeFew, AwakeSure: a machine that hears within a burst, and at its end. -/
import Derived.Test.YtknjnpagbpjlkaaAwPlain3
namespace Go.Proofs.Ytknjnpagbpjlkaa.Aw

/-- so many units, rounded up -/
def ceil (to_ u : Int) : Int := (to_ + u - 1).tdiv u
theorem ceil_facts {t u : Int} (ht : 1 ≤ t) (ht' : t ≤ 1000) (hu : 1 ≤ u) (hu' : u ≤ 40) : 1 ≤ ceil t u ∧ ceil t u < 4096 ∧ t ≤ ceil t u * u ∧ ceil t u * u ≤ t + u - 1 := by
  unfold ceil
  rw [Int.tdiv_eq_ediv_of_nonneg (by omega)]
  have h1 := Int.ediv_mul_add_emod (t + u - 1) u
  have h2 := Int.emod_nonneg (t + u - 1) (show u ≠ 0 by omega)
  have h3 := Int.emod_lt_of_pos (t + u - 1) (show 0 < u by omega)
  have h4 := Int.ediv_le_self u (show 0 ≤ t + u - 1 by omega)
  have h5 : 1 ≤ (t + u - 1) / u := by
    rw [Int.le_ediv_iff_mul_le (by omega)]
    omega
  exact ⟨h5, by omega, by omega, by omega⟩

section
variable {m : M} {d : Int}
theorem hear0 (h2 : m.state ≠ 2) (hd : 1 ≤ d) (hd' : d < 4096) : m.heardE d 0 = 0 := by
  unfold M.heardE timesE timesOk
  rw [if_neg h2, decide_eq_true (by omega)]
  rfl
theorem heard_eq (h2 : m.state ≠ 2) (hd : 1 ≤ d) (hd' : d < 4096) (fr : Bool) : m.heard d fr 0 = m.hear d fr := by
  unfold M.heard
  rw [if_pos (hear0 h2 hd hd')]

/-- what is known once a section was heard whose burst began at S -/
theorem known {S : Int} (hS : (m.state = 4 ∧ m.begun = S) ∨ (m.state ≠ 4 ∧ m.now = S)) (hd : 1 ≤ d) :
    m.enter.know d = ⟨m.unit, m.guard, m.burst, m.pat, m.now, 4, S, wakeOf m.now d m.unit m.guard, m.now + d * m.unit, m.spent, m.missed⟩ := by
  unfold M.know M.enter
  rw [if_pos (by omega)]
  rcases hS with ⟨h1, h2⟩ | ⟨h1, h2⟩
  · rw [if_pos h1]
    simp only [h1, h2]
  · rw [if_neg h1]
    simp only [h2]

theorem mid_next {S : Int} (h2 : m.state ≠ 2) (hS : (m.state = 4 ∧ m.begun = S) ∨ (m.state ≠ 4 ∧ m.now = S)) (hd : 1 ≤ d) (hd' : d < 4096) (h0 : m.now < 1099511627775) (hb : m.now + 1 - S < m.burst) :
    (m.heard d false 0).next.state = 4 ∧ (m.heard d false 0).next.begun = S ∧ (m.heard d false 0).next.missed = m.missed ∧ (m.heard d false 0).next.spent = m.spent + 1 := by
  rw [heard_eq h2 hd hd']
  have e : m.hear d false = m.enter.know d := rfl
  rw [e, known hS hd]
  unfold M.next
  rw [if_neg (by simp only; omega)]
  unfold M.settle
  rw [if_neg (by simp only [M.tick]; omega)]
  unfold M.settle2
  rw [if_neg (by simp [M.tick]), if_neg (by simp [M.tick])]
  exact ⟨rfl, rfl, rfl, by simp [M.tick]⟩

theorem last_next {S : Int} (h2 : m.state ≠ 2) (hS : (m.state = 4 ∧ m.begun = S) ∨ (m.state ≠ 4 ∧ m.now = S)) (hd : 1 ≤ d) (hd' : d < 4096) (h0 : m.now < 1099511627775) (hu : 1 ≤ m.unit) (hn : 0 ≤ m.now) (hp : 0 ≤ m.pat) (hm : m.missed = 0) :
    Wt (m.heard d true 0).next m.pat (wakeOf m.now d m.unit m.guard) (m.now + d * m.unit) := by
  have h1 : 1 * 1 ≤ d * m.unit := Int.mul_le_mul hd hu (by omega) (by omega)
  rw [heard_eq h2 hd hd']
  have e : m.hear d true = (m.enter.know d).rest.settle := rfl
  rw [e, known hS hd]
  refine wt_next (m := _) ?_ ?_ ?_
  · unfold M.rest
    rw [if_neg (by simp only; omega)]
    unfold M.settle
    rw [if_neg (by simp [M.setState])]
    unfold M.settle2
    rw [if_pos (by rfl)]
    split
    · rename_i h3
      simp only [M.setState] at h3
      exact ⟨rfl, rfl, rfl, hm, Or.inl ⟨h3, rfl⟩⟩
    · rename_i h3
      simp only [M.setState] at h3
      unfold M.expire
      rw [if_neg (by simp only [M.setState]; omega)]
      exact ⟨rfl, rfl, rfl, hm, Or.inr ⟨by simp only [M.setState]; omega, rfl⟩⟩
  · rw [(settle_keeps _).1, (rest_keeps _).1]
    exact h0
  · rw [(settle_keeps _).1, (rest_keeps _).1]
    simp only
    omega
end

/-- in how many slots of a gap it is awake: not before wk -/
theorem gap_spent {m : M} {p wk L : Int} (h : Wt m p wk L) (n : Nat) (h0 : m.now + n ≤ 1099511627775) (hL : m.now + n ≤ L + p) : (m.steps n).spent ≤ m.spent + max 0 (m.now + n - wk) := by
  induction n with
  | zero => simp [M.steps]; omega
  | succ n ih =>
    have h1 := ih (by omega) (by omega)
    have hn := steps_now m n (by omega)
    have hw := wt_steps h n (by omega) (by omega)
    show ((m.steps n).next).spent ≤ _
    have hs := hw.s
    by_cases h2 : (m.steps n).state = 2
    · have : ((m.steps n).next).spent = (m.steps n).spent := by
        unfold M.next
        rw [if_neg (by omega), (settle_keeps _).2.1]
        unfold M.tick
        rw [if_pos h2]
      omega
    · have := (next_spent (m.steps n)).2
      omega
end Go.Proofs.Ytknjnpagbpjlkaa.Aw
