/- The plain law of AwakeSure: burst by burst. -/
import Derived.Test.YtknjnpagbpjlkaaAwFewP
namespace Go.Proofs.Ytknjnpagbpjlkaa.Aw

/-- it has heard nothing yet, or it waits for a burst that begins at S -/
def Rdy (m : M) (hd : Bool) (S p : Int) : Prop := (hd = false ∧ m.state = 1) ∨ (hd = true ∧ ∃ wk L, Wt m p wk L ∧ wk ≤ S ∧ S ≤ L)

/-- in the burst that begins at S and has n slots, of which those from f on are heard; the next one begins at nx -/
structure Bur (X : M) (hd : Bool) (S k f n nx u g b p : Int) : Prop where
  cf : Cf X u g b p
  nw : X.now = S + k
  n0 : 0 ≤ S
  n1 : S ≤ 100000
  ms : X.missed = 0
  st : (k ≤ f ∧ k < n ∧ Rdy X hd S p) ∨ (f < k ∧ k < n ∧ hd = true ∧ X.state = 4 ∧ X.begun = S + f) ∨ (k = n ∧ hd = true ∧ Rdy X true nx p)

section
variable {X m : M} {hd : Bool} {S k f n nx u g b p : Int}
theorem rdy_state (h : Rdy m hd S p) (hn : S ≤ m.now) : m.state ≠ 2 ∧ m.state ≠ 4 := by
  rcases h with ⟨_, h⟩ | ⟨_, wk, L, hW, h1, _⟩
  · omega
  · have := hW.s
    omega
theorem rdy_next (h : Rdy m hd S p) (hm : m.missed = 0) (h0 : m.now < 1099511627775) (hS : m.now + 1 ≤ S + p) : Rdy m.next hd S p ∧ m.next.missed = 0 := by
  rcases h with ⟨e, h⟩ | ⟨e, wk, L, hW, h1, h2⟩
  · obtain ⟨a1, a2, _⟩ := acq_next h h0
    exact ⟨Or.inl ⟨e, a1⟩, a2.trans hm⟩
  · have hW' := wt_next hW h0 (by omega)
    exact ⟨Or.inr ⟨e, wk, L, hW', h1, h2⟩, hW'.ms⟩

theorem bur_awake (h : Bur X hd S k f n nx u g b p) (hk0 : 0 ≤ k) (hk : k < n) : X.state ≠ 2 := by
  have hnw := h.nw
  rcases h.st with ⟨_, _, hR⟩ | ⟨_, _, _, h4, _⟩ | ⟨h1, _⟩
  · exact (rdy_state hR (by omega)).1
  · omega
  · omega
theorem bur_hS (h : Bur X hd S k f n nx u g b p) (hk0 : 0 ≤ k) (hf : f ≤ k) (hk : k < n) : (X.state = 4 ∧ X.begun = S + f) ∨ (X.state ≠ 4 ∧ X.now = S + f) := by
  have hnw := h.nw
  rcases h.st with ⟨h1, _, hR⟩ | ⟨_, _, _, h4, h5⟩ | ⟨h1, _⟩
  · exact Or.inr ⟨(rdy_state hR (by omega)).2, by omega⟩
  · exact Or.inl ⟨h4, h5⟩
  · omega
theorem bur_skip (h : Bur X hd S k f n nx u g b p) (hk0 : 0 ≤ k) (hf : k < f) (hfn : f < n) (hnb : n ≤ b) (hb : b ≤ 40) (hbp : b ≤ p) : Bur X.next hd S (k + 1) f n nx u g b p := by
  have hnw := h.nw
  have h0 := h.n0
  have h1 := h.n1
  rcases h.st with ⟨_, _, hR⟩ | ⟨h2, _⟩ | ⟨h2, _⟩
  · obtain ⟨a1, a2⟩ := rdy_next hR h.ms (by omega) (by omega)
    exact ⟨cf_next h.cf, by rw [next_now _ (by omega)]; omega, h0, h1, a2, Or.inl ⟨by omega, by omega, a1⟩⟩
  · omega
  · omega
theorem bur_mid (h : Bur X hd S k f n nx u g b p) (hk0 : 0 ≤ k) (hf0 : 0 ≤ f) (hf : f ≤ k) (hk : k + 1 < n) (hnb : n ≤ b) (hb : b ≤ 40) (hx : S + n ≤ nx) (hx' : nx ≤ S + n + 300) (hu : 1 ≤ u) (hu' : u ≤ 40) :
    Bur (X.heard (ceil (nx - (S + k)) u) false 0).next true S (k + 1) f n nx u g b p := by
  have hnw := h.nw
  have h0 := h.n0
  have h1 := h.n1
  obtain ⟨c1, c2, c3, c4⟩ := ceil_facts (t := nx - (S + k)) (u := u) (by omega) (by omega) hu hu'
  obtain ⟨a1, a2, a3, a4⟩ := mid_next (bur_awake h hk0 (by omega)) (bur_hS h hk0 hf (by omega)) c1 c2 (by omega) (by rw [h.cf.b]; omega)
  have e := (heard_keeps X (ceil (nx - (S + k)) u) 0 false).1
  exact ⟨cf_next (cf_heard h.cf _ _ _), by rw [next_now _ (by omega)]; omega, h0, h1, a3.trans h.ms, Or.inr (Or.inl ⟨by omega, hk, rfl, a1, a2⟩)⟩
theorem bur_last (h : Bur X hd S k f n nx u g b p) (hk0 : 0 ≤ k) (hf : f ≤ k) (hk : k + 1 = n) (hnb : n ≤ b) (hb : b ≤ 40) (hx : S + n ≤ nx) (hx' : nx ≤ S + n + 300) (hu : 1 ≤ u) (hu' : u ≤ 40) (hg : 0 ≤ g) (hp : 0 ≤ p) :
    Bur (X.heard (ceil (nx - (S + k)) u) true 0).next true S (k + 1) f n nx u g b p := by
  have hnw := h.nw
  have h0 := h.n0
  have h1 := h.n1
  obtain ⟨c1, c2, c3, c4⟩ := ceil_facts (t := nx - (S + k)) (u := u) (by omega) (by omega) hu hu'
  have hW := last_next (bur_awake h hk0 (by omega)) (bur_hS h hk0 hf (by omega)) c1 c2 (by omega) (by rw [h.cf.u]; omega) (by omega) (by rw [h.cf.p]; omega) h.ms
  have e := (heard_keeps X (ceil (nx - (S + k)) u) 0 true).1
  have hms := hW.ms
  rw [h.cf.u, h.cf.g, h.cf.p, hnw] at hW
  refine ⟨cf_next (cf_heard h.cf _ _ _), by rw [next_now _ (by omega)]; omega, h0, h1, hms, Or.inr (Or.inr ⟨hk, rfl, Or.inr ⟨rfl, _, _, hW, ?_, ?_⟩⟩)⟩
  · unfold wakeOf
    omega
  · omega
/-- between two bursts: the next one begins at S -/
structure Gap (X : M) (hd : Bool) (S u g b p : Int) : Prop where
  cf : Cf X u g b p
  n0 : 0 ≤ X.now
  nw : X.now ≤ S
  n1 : S ≤ 100000
  ms : X.missed = 0
  st : Rdy X hd S p
theorem gap_next (h : Gap X hd S u g b p) (hlt : X.now < S) (hp : 0 ≤ p) : Gap X.next hd S u g b p ∧ X.next.now = X.now + 1 := by
  have h0 := h.n0
  have h1 := h.n1
  have hn := next_now X (by omega)
  obtain ⟨a1, a2⟩ := rdy_next h.st h.ms (by omega) (by omega)
  exact ⟨⟨cf_next h.cf, by omega, by omega, h1, a2, a1⟩, hn⟩
theorem gap_bur (h : Gap X hd S u g b p) (he : ¬ X.now < S) (hf : 0 ≤ f) (hn : 0 < n) : Bur X hd S 0 f n nx u g b p := by
  have h0 := h.n0
  have h1 := h.nw
  exact ⟨h.cf, by omega, by omega, h.n1, h.ms, Or.inl ⟨hf, hn, h.st⟩⟩
theorem bur_gap (h : Bur X hd S n f n nx u g b p) (hn : 0 ≤ n) (hx : S + n ≤ nx) (hx' : nx ≤ 100000) : Gap X true nx u g b p := by
  have hnw := h.nw
  have h0 := h.n0
  rcases h.st with ⟨_, h1, _⟩ | ⟨_, h1, _⟩ | ⟨_, _, hR⟩
  · omega
  · omega
  · exact ⟨h.cf, by omega, by omega, hx', h.ms, hR⟩
theorem bur_done (h : Bur X hd S n f n nx u g b p) : hd = true := by
  rcases h.st with ⟨_, h1, _⟩ | ⟨_, h1, _⟩ | ⟨_, h1, _⟩
  · omega
  · omega
  · exact h1
theorem gap_start (hS : 0 ≤ S) (hS' : S ≤ 100000) : Gap (start u g b p) false S u g b p :=
  ⟨⟨rfl, rfl, rfl, rfl⟩, by simp [start], by simp [start]; omega, hS', rfl, Or.inl ⟨rfl, rfl⟩⟩
end
end Go.Proofs.Ytknjnpagbpjlkaa.Aw
