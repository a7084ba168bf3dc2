/- The plain law of AwakeFew: burst by burst. -/
import Derived.Test.YtknjnpagbpjlkaaAwPlain4
namespace Go.Proofs.Ytknjnpagbpjlkaa.Aw

structure Cf (m : M) (u g b p : Int) : Prop where
  u : m.unit = u
  g : m.guard = g
  b : m.burst = b
  p : m.pat = p
section
variable {m : M} {u g b p : Int}
theorem cf_next (h : Cf m u g b p) : Cf m.next u g b p := by
  obtain ⟨a1, a2, a3, a4⟩ := next_cfg m
  exact ⟨a1.trans h.u, a2.trans h.g, a3.trans h.b, a4.trans h.p⟩
theorem cf_heard (h : Cf m u g b p) (d a : Int) (fr : Bool) : Cf (m.heard d fr a) u g b p := by
  obtain ⟨_, _, a1, a2, a3, a4⟩ := heard_keeps m d a fr
  exact ⟨a1.trans h.u, a2.trans h.g, a3.trans h.b, a4.trans h.p⟩
theorem cf_steps (h : Cf m u g b p) : ∀ n, Cf (m.steps n) u g b p
  | 0 => h
  | n + 1 => cf_next (cf_steps h n)
end

/-- it waits for a burst that begins at S -/
def Due (m : M) (S u g p : Int) : Prop := ∃ wk L, Wt m p wk L ∧ wk ≤ S ∧ S ≤ L ∧ S - wk ≤ u - 1 + g

/-- ahead of burst i, which begins in gap slots -/
structure Few (m : M) (i : Nat) (gap sp u g b p : Int) : Prop where
  cf : Cf m u g b p
  n0 : 0 ≤ m.now
  n1 : m.now ≤ 339 * i
  ms : m.missed = 0
  st : (i = 0 ∧ m.state = 1) ∨ (0 < i ∧ sp = m.spent ∧ Due m (m.now + gap) u g p)

/-- in a burst that began at S, has n slots, and that is followed, next slots behind its end, by another one -/
structure Bst (X : M) (S k n next sp u g b p : Int) : Prop where
  cf : Cf X u g b p
  nw : X.now = S + k
  n0 : 0 ≤ S
  n1 : S ≤ 100000
  ms : X.missed = 0
  sp : X.spent ≤ sp + k
  st : (k < n ∧ ((k = 0 ∧ X.state ≠ 2 ∧ X.state ≠ 4) ∨ (0 < k ∧ X.state = 4 ∧ X.begun = S))) ∨ (k = n ∧ Due X (S + n + next) u g p)

section
variable {X m : M} {S k n next sp u g b p gap : Int} {i : Nat}
theorem bst_awake (h : Bst X S k n next sp u g b p) (hk : k < n) : X.state ≠ 2 := by
  have := h.st
  omega
theorem bst_hS (h : Bst X S k n next sp u g b p) (hk : k < n) : (X.state = 4 ∧ X.begun = S) ∨ (X.state ≠ 4 ∧ X.now = S) := by
  have := h.st
  have := h.nw
  omega
theorem bst_mid (h : Bst X S k n next sp u g b p) (hk0 : 0 ≤ k) (hk : k + 1 < n) (hnb : n ≤ b) (hn : n ≤ 40) (hx0 : 0 ≤ next) (hx : next ≤ 300) (hu : 1 ≤ u) (hu' : u ≤ 40) :
    Bst (X.heard (ceil (n - k + next) u) false 0).next S (k + 1) n next sp u g b p := by
  have hnw := h.nw
  have h0 := h.n0
  have h1 := h.n1
  obtain ⟨c1, c2, c3, c4⟩ := ceil_facts (t := n - k + next) (u := u) (by omega) (by omega) hu hu'
  obtain ⟨a1, a2, a3, a4⟩ := mid_next (bst_awake h (by omega)) (bst_hS h (by omega)) c1 c2 (by omega) (by rw [h.cf.b]; omega)
  refine ⟨cf_next (cf_heard h.cf _ _ _), ?_, h0, h1, a3.trans h.ms, by rw [a4]; have := h.sp; omega, Or.inl ⟨hk, Or.inr ⟨by omega, a1, a2⟩⟩⟩
  have e := (heard_keeps X (ceil (n - k + next) u) 0 false).1
  rw [next_now _ (by omega)]
  omega
theorem bst_last (h : Bst X S k n next sp u g b p) (hk0 : 0 ≤ k) (hk : k + 1 = n) (hn : n ≤ 40) (hx0 : 0 ≤ next) (hx : next ≤ 300) (hu : 1 ≤ u) (hu' : u ≤ 40) (hg : 0 ≤ g) (hp : 1 ≤ p) :
    Bst (X.heard (ceil (n - k + next) u) true 0).next S (k + 1) n next sp u g b p := by
  have hnw := h.nw
  have h0 := h.n0
  have h1 := h.n1
  obtain ⟨c1, c2, c3, c4⟩ := ceil_facts (t := n - k + next) (u := u) (by omega) (by omega) hu hu'
  have hW := last_next (bst_awake h (by omega)) (bst_hS h (by omega)) c1 c2 (by omega) (by rw [h.cf.u]; omega) (by omega) (by rw [h.cf.p]; omega) h.ms
  have e := (heard_keeps X (ceil (n - k + next) u) 0 true).1
  have e2 := (heard_keeps X (ceil (n - k + next) u) 0 true).2.1
  have e3 := (next_spent (X.heard (ceil (n - k + next) u) true 0)).2
  have hms := hW.ms
  rw [h.cf.u, h.cf.g, h.cf.p, hnw] at hW
  refine ⟨cf_next (cf_heard h.cf _ _ _), ?_, h0, h1, hms, by have := h.sp; omega, Or.inr ⟨hk, _, _, hW, ?_, ?_, ?_⟩⟩
  · rw [next_now _ (by omega)]
    omega
  · unfold wakeOf
    omega
  · omega
  · unfold wakeOf
    omega

theorem few_first (h : Few m i gap sp u g b p) (hi : i = 0) (hn : 0 < n) : Bst m m.now 0 n next m.spent u g b p := by
  have h0 := h.n0
  have h1 := h.n1
  have hs := h.st
  exact ⟨h.cf, by omega, h0, by omega, h.ms, by omega, Or.inl ⟨hn, Or.inl ⟨rfl, by omega, by omega⟩⟩⟩
theorem few_gap {gp : Nat} (h : Few m i gp sp u g b p) (hi : 0 < i) (hi' : i ≤ 12) (hgp : gp ≤ 300) (hn : 0 < n) (hp : 1 ≤ p) :
    Bst (m.steps gp) (m.now + gp) 0 n next (m.steps gp).spent u g b p ∧ (m.steps gp).spent ≤ sp + (u - 1 + g) := by
  have h0 := h.n0
  have h1 := h.n1
  rcases h.st with ⟨h2, _⟩ | ⟨_, hsp, wk, L, hW, d1, d2, d3⟩
  · omega
  have hn1 := steps_now m gp (by omega)
  have hw1 := wt_steps hW gp (by omega) (by omega)
  have hg1 := gap_spent hW gp (by omega) (by omega)
  have hs := hw1.s
  exact ⟨⟨cf_steps h.cf _, by omega, by omega, by omega, hw1.ms, by omega, Or.inl ⟨hn, Or.inl ⟨rfl, by omega, by omega⟩⟩⟩, by omega⟩
theorem bst_few (h : Bst X S n n next sp u g b p) (hS : S ≤ 339 * i + 299) (hn0 : 0 ≤ n) (hn : n ≤ 40) : Few X (i + 1) next X.spent u g b p := by
  have hnw := h.nw
  have h0 := h.n0
  refine ⟨h.cf, by omega, by omega, h.ms, Or.inr ⟨by omega, rfl, ?_⟩⟩
  rcases h.st with ⟨h1, _⟩ | ⟨_, h1⟩
  · omega
  · rw [hnw]
    exact h1
theorem few_start : Few (start u g b p) 0 gap sp u g b p :=
  ⟨⟨rfl, rfl, rfl, rfl⟩, by simp [start], by simp [start], rfl, Or.inl ⟨rfl, rfl⟩⟩
end
end Go.Proofs.Ytknjnpagbpjlkaa.Aw
