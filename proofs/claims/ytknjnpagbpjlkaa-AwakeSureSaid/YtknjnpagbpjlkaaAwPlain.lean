/- Plain laws of layer 21: what stays within its bounds. No Go in sight. -/
import Derived.Test.YtknjnpagbpjlkaaAwSpec
namespace Go.Proofs.Ytknjnpagbpjlkaa.Aw

theorem inv_start {u g b p : Int} (h : cfg u g b p = true) : (start u g b p).Inv := by
  unfold cfg at h
  have h := of_decide_eq_true h
  unfold start
  constructor <;> (try simp only) <;> omega

theorem rest_inv (m : M) (h : m.Inv) : m.rest.Inv := by
  obtain ⟨h1, h2, h3, h4, h5, h6, h7, h8, h9, h10, h11, h12, h13, h14, h15, h16, h17, h18, h19, h20, h21⟩ := h
  unfold M.rest M.reset M.setState
  split <;> constructor <;> (try simp only) <;> omega

/-- as Inv, but a miss may come -/
structure M.Pre (m : M) : Prop where
  u1 : 1 ≤ m.unit
  u2 : m.unit ≤ 1048576
  g1 : 0 ≤ m.guard
  g2 : m.guard ≤ 1048576
  b1 : 1 ≤ m.burst
  b2 : m.burst ≤ 1048576
  p1 : 1 ≤ m.pat
  p2 : m.pat ≤ 1048576
  n1 : 0 ≤ m.now
  n2 : m.now ≤ 1099511627775
  s1 : 1 ≤ m.state
  s2 : m.state ≤ 4
  e1 : 0 ≤ m.begun
  e2 : m.begun ≤ m.now
  w1 : 0 ≤ m.wake
  w2 : m.wake ≤ m.last
  l2 : m.last ≤ 2199023255552
  t1 : 0 ≤ m.spent
  t2 : m.spent ≤ m.now
  m1 : 0 ≤ m.missed
  m2 : m.missed < m.now ∨ (m.missed ≤ m.now ∧ m.now ≤ m.last + m.pat)

theorem expire_inv (m : M) (h : m.Pre) : m.expire.Inv := by
  obtain ⟨h1, h2, h3, h4, h5, h6, h7, h8, h9, h10, h11, h12, h13, h14, h15, h16, h17, h18, h19, h20, h21⟩ := h
  unfold M.expire
  split <;> constructor <;> (try simp only) <;> omega
theorem inv_of_pre (m : M) (h : m.Pre) : m.Inv := by
  obtain ⟨h1, h2, h3, h4, h5, h6, h7, h8, h9, h10, h11, h12, h13, h14, h15, h16, h17, h18, h19, h20, h21⟩ := h
  constructor <;> omega
theorem settle2_inv (m : M) (h : m.Pre) : m.settle2.Inv := by
  unfold M.settle2
  split
  · split
    · exact inv_of_pre m h
    · refine expire_inv _ ?_
      obtain ⟨h1, h2, h3, h4, h5, h6, h7, h8, h9, h10, h11, h12, h13, h14, h15, h16, h17, h18, h19, h20, h21⟩ := h
      unfold M.setState
      constructor <;> (try simp only) <;> omega
  · split
    · exact expire_inv m h
    · exact inv_of_pre m h
theorem rest_pre (m : M) (h : m.Pre) (hm : m.missed < m.now) : m.rest.Pre := by
  obtain ⟨h1, h2, h3, h4, h5, h6, h7, h8, h9, h10, h11, h12, h13, h14, h15, h16, h17, h18, h19, h20, h21⟩ := h
  unfold M.rest
  split
  · unfold M.reset
    constructor <;> (try simp only) <;> omega
  · unfold M.setState
    constructor <;> (try simp only) <;> omega
theorem settle_inv (m : M) (h : m.Pre) (hm : m.missed < m.now) : m.settle.Inv := by
  unfold M.settle
  split
  · exact settle2_inv _ (rest_pre m h hm)
  · exact settle2_inv m h

theorem next_inv (m : M) (h : m.Inv) : m.next.Inv := by
  unfold M.next
  split
  · exact h
  · obtain ⟨h1, h2, h3, h4, h5, h6, h7, h8, h9, h10, h11, h12, h13, h14, h15, h16, h17, h18, h19, h20, h21⟩ := h
    refine settle_inv _ ?_ ?_
    · unfold M.tick
      constructor <;> (try simp only) <;> (try split) <;> omega
    · unfold M.tick
      simp only
      omega

theorem steps_inv (m : M) (h : m.Inv) : ∀ n, (m.steps n).Inv
  | 0 => h
  | n + 1 => next_inv _ (steps_inv m h n)

theorem enter_inv (m : M) (h : m.Inv) : m.enter.Inv := by
  obtain ⟨h1, h2, h3, h4, h5, h6, h7, h8, h9, h10, h11, h12, h13, h14, h15, h16, h17, h18, h19, h20, h21⟩ := h
  unfold M.enter
  split <;> constructor <;> (try simp only) <;> omega

theorem know_inv (m : M) (h : m.Inv) (d : Int) (hd : 0 ≤ d) (hd' : d < 4096) : (m.know d).Inv ∧ (0 < d → (m.know d).now ≤ (m.know d).last) := by
  obtain ⟨h1, h2, h3, h4, h5, h6, h7, h8, h9, h10, h11, h12, h13, h14, h15, h16, h17, h18, h19, h20, h21⟩ := h
  have hm0 : d ≤ d * m.unit := by
    have := Int.mul_le_mul_of_nonneg_left h1 hd
    omega
  have hm2 : 0 < d → m.unit ≤ d * m.unit := fun hp => by
    have := Int.mul_le_mul_of_nonneg_right (show (1 : Int) ≤ d from hp) (show 0 ≤ m.unit by omega)
    omega
  have hm1 : d * m.unit ≤ 4096 * 1048576 := Int.mul_le_mul (by omega) h2 (by omega) (by omega)
  unfold M.know
  split
  · rename_i hp
    have hu := hm2 hp
    unfold wakeOf
    refine ⟨?_, fun _ => ?_⟩
    · constructor <;> (try simp only) <;> omega
    · simp only; omega
  · refine ⟨?_, fun hp => absurd hp ‹_›⟩
    constructor <;> (try simp only) <;> omega
theorem hear_inv (m : M) (h : m.Inv) (d : Int) (fr : Bool) (hd : 0 ≤ d) (hd' : d < 4096) : (m.hear d fr).Inv := by
  obtain ⟨hk, hl⟩ := know_inv _ (enter_inv m h) d hd hd'
  unfold M.hear
  split
  · have hr := rest_inv _ hk
    by_cases hp : 0 < d
    · have hle := hl hp
      generalize m.enter.know d = x at *
      have hs : x.rest.settle.Inv := by
        unfold M.settle
        have e4 : ¬ x.rest.state = 4 := by unfold M.rest M.reset M.setState; split <;> simp
        rw [if_neg (fun hh => e4 hh.1)]
        refine settle2_inv _ ?_
        obtain ⟨h1, h2, h3, h4, h5, h6, h7, h8, h9, h10, h11, h12, h13, h14, h15, h16, h17, h18, h19, h20, h21⟩ := hk
        unfold M.rest
        split
        · unfold M.reset
          constructor <;> (try simp only) <;> omega
        · unfold M.setState
          constructor <;> (try simp only) <;> omega
      exact hs
    · have e0 : (m.enter.know d).wake = 0 ∧ (m.enter.know d).last = 0 := by unfold M.know; rw [if_neg hp]; exact ⟨rfl, rfl⟩
      have er : (m.enter.know d).rest = (m.enter.know d).reset := by unfold M.rest; rw [if_pos e0]
      rw [er] at hr ⊢
      have es : ∀ x : M, x.reset.settle = x.reset := fun x => by simp [M.settle, M.settle2, M.reset]
      rw [es]
      exact hr
  · exact hk
theorem heard_inv (m : M) (h : m.Inv) (d a : Int) (fr : Bool) : (m.heard d fr a).Inv := by
  unfold M.heard
  split
  · rename_i he
    have : timesE d a = 0 := by
      unfold M.heardE at he
      split at he
      · cases he
      · exact he
    rw [timesE_eq] at this
    split at this
    · rename_i hh
      have h12 := of_decide_eq_true hh.1
      exact hear_inv m h d fr h12.1 h12.2
    · cases this
  · exact h
theorem reset_inv (m : M) (h : m.Inv) : m.reset.Inv := by
  obtain ⟨h1, h2, h3, h4, h5, h6, h7, h8, h9, h10, h11, h12, h13, h14, h15, h16, h17, h18, h19, h20, h21⟩ := h
  unfold M.reset
  constructor <;> (try simp only) <;> omega
end Go.Proofs.Ytknjnpagbpjlkaa.Aw
