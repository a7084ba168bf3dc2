/- Plain facts for AwakeMissed: a machine that has heard one burst's end, and then nothing. -/
import Derived.Test.YtknjnpagbpjlkaaAwPlain2
namespace Go.Proofs.Ytknjnpagbpjlkaa.Aw

/-- waiting: it knows the next burst's window, and has not missed it yet -/
structure Wt (m : M) (p wk L : Int) : Prop where
  p : m.pat = p
  w : m.wake = wk
  l : m.last = L
  ms : m.missed = 0
  s : (m.now < wk ∧ m.state = 2) ∨ (wk ≤ m.now ∧ m.state = 3)

theorem wt_next {m : M} {p wk L : Int} (h : Wt m p wk L) (h0 : m.now < 1099511627775) (hL : m.now + 1 ≤ L + p) : Wt m.next p wk L := by
  have hs := h.s
  have hp := h.p
  have hw := h.w
  have hl := h.l
  have hms := h.ms
  have e4 : m.state ≠ 4 := by omega
  unfold M.next
  rw [if_neg (by omega)]
  unfold M.settle
  rw [if_neg (by intro hh; exact e4 hh.1)]
  unfold M.settle2
  by_cases h2 : m.now < wk
  · have hs2 : m.state = 2 := by omega
    rw [if_pos (by exact hs2)]
    split
    · rename_i h3
      simp only [M.tick] at h3
      exact ⟨hp, hw, hl, hms, Or.inl ⟨by simp only [M.tick]; omega, hs2⟩⟩
    · rename_i h3
      simp only [M.tick] at h3
      unfold M.expire
      rw [if_neg (by simp only [M.tick, M.setState]; omega)]
      exact ⟨hp, hw, hl, hms, Or.inr ⟨by simp only [M.tick, M.setState]; omega, rfl⟩⟩
  · have hs3 : m.state = 3 := by omega
    rw [if_neg (by simp only [M.tick]; omega), if_pos (by exact hs3)]
    unfold M.expire
    rw [if_neg (by simp only [M.tick]; omega)]
    exact ⟨hp, hw, hl, hms, Or.inr ⟨by simp only [M.tick]; omega, hs3⟩⟩

theorem wt_over {m : M} {p wk L : Int} (h : Wt m p wk L) (h0 : m.now < 1099511627775) (hL : m.now = L + p) (hwL : wk ≤ L) (hp0 : 0 ≤ p) :
    m.next.state = 1 ∧ m.next.missed = 1 ∧ m.next.wake = 0 ∧ m.next.last = 0 := by
  have hs := h.s
  have hp := h.p
  have hl := h.l
  have hms := h.ms
  have hs : m.state = 3 := by omega
  unfold M.next
  rw [if_neg (by omega)]
  unfold M.settle
  rw [if_neg (by intro hh; have : m.state = 4 := hh.1; omega)]
  unfold M.settle2
  rw [if_neg (by simp only [M.tick]; omega), if_pos (by exact hs)]
  unfold M.expire
  rw [if_pos (by simp only [M.tick]; omega)]
  exact ⟨rfl, by simp only [M.tick]; omega, rfl, rfl⟩

theorem acq_next {m : M} (h : m.state = 1) (h0 : m.now < 1099511627775) : m.next.state = 1 ∧ m.next.missed = m.missed ∧ m.next.spent = m.spent + 1 := by
  unfold M.next
  rw [if_neg (by omega)]
  unfold M.settle
  rw [if_neg (by intro hh; have : m.state = 4 := hh.1; omega)]
  unfold M.settle2
  rw [if_neg (by simp only [M.tick]; omega), if_neg (by simp only [M.tick]; omega)]
  exact ⟨h, rfl, by simp only [M.tick]; rw [if_neg (by omega)]⟩

theorem acq_steps {m : M} (h : m.state = 1) (n : Nat) (h0 : m.now + n ≤ 1099511627775) : (m.steps n).state = 1 ∧ (m.steps n).missed = m.missed ∧ (m.steps n).spent = m.spent + n := by
  induction n with
  | zero => simp [M.steps, h]
  | succ n ih =>
    obtain ⟨a1, a2, a3⟩ := ih (by omega)
    have hn := steps_now m n (by omega)
    obtain ⟨b1, b2, b3⟩ := acq_next a1 (by omega)
    exact ⟨b1, b2.trans a2, by show ((m.steps n).next).spent = _; omega⟩

theorem wt_start {u g b p d : Int} (hc : cfg u g b p = true) (hd : 1 ≤ d) (hd' : d ≤ 20) (hu : u ≤ 40) :
    ∃ wk, 0 ≤ wk ∧ wk ≤ d * u ∧ 1 ≤ d * u ∧ d * u ≤ 800 ∧ Wt ((start u g b p).heard d true 0) p wk (d * u) ∧ (start u g b p).heardE d 0 = 0 := by
  simp only [cfg, decide_eq_true_eq] at hc
  have h1 : 1 * 1 ≤ d * u := Int.mul_le_mul hd hc.1 (by omega) (by omega)
  have h2 : d * u ≤ 20 * 40 := Int.mul_le_mul hd' hu (by omega) (by omega)
  have e0 : (start u g b p).heardE d 0 = 0 := by
    unfold M.heardE start timesE timesOk
    simp only
    rw [if_neg (by omega), decide_eq_true (by omega)]
    rfl
  have e1 : (start u g b p).heard d true 0 = ((start u g b p).enter.know d).rest.settle := by
    unfold M.heard
    rw [if_pos e0]
    rfl
  have e2 : (start u g b p).enter.know d = ⟨u, g, b, p, 0, 4, 0, wakeOf 0 d u g, 0 + d * u, 0, 0⟩ := by
    unfold M.know M.enter start
    simp only
    rw [if_pos (by omega)]
    rfl
  refine ⟨wakeOf 0 d u g, by unfold wakeOf; omega, by unfold wakeOf; omega, by omega, by omega, ?_, e0⟩
  rw [e1, e2]
  unfold M.rest
  rw [if_neg (by simp only; omega)]
  unfold M.settle
  rw [if_neg (by simp only [M.setState]; omega)]
  unfold M.settle2
  rw [if_pos (by rfl)]
  split
  · rename_i h3
    simp only [M.setState] at h3
    exact ⟨rfl, rfl, by simp only [M.setState]; omega, rfl, Or.inl ⟨h3, rfl⟩⟩
  · rename_i h3
    simp only [M.setState] at h3
    unfold M.expire
    rw [if_neg (by simp only [M.setState]; omega)]
    exact ⟨rfl, rfl, by simp only [M.setState]; omega, rfl, Or.inr ⟨by simp only [M.setState]; omega, rfl⟩⟩

theorem wt_steps {m : M} {p wk L : Int} (h : Wt m p wk L) (n : Nat) (h0 : m.now + n ≤ 1099511627775) (hL : m.now + n ≤ L + p) : Wt (m.steps n) p wk L := by
  induction n with
  | zero => exact h
  | succ n ih =>
    have hn := steps_now m n (by omega)
    exact wt_next (ih (by omega) (by omega)) (by omega) (by omega)
end Go.Proofs.Ytknjnpagbpjlkaa.Aw
