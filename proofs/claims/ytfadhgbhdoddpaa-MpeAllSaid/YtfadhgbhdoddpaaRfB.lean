/- A range over a function whose round's variables lie in boxes of their own. -/
import Derived.Test.YtfadhgbhdoddpaaPkB
namespace Go.Proofs.Ytfadhgbhdoddpaa.RfB
open Go Go.RowKit Go.Proofs.Ytfadhgbhdoddpaa.Q Go.Proofs.Ytfadhgbhdoddpaa.Mem Go.Proofs.Ytfadhgbhdoddpaa.Rf

theorem range_box_new {F : Fence} {n : Nat} {P : Program} {g : Operand} {ps : Array Tmp} {assign body : Code} {Q : Exit → Act → World → Prop} {a : Act} {w : World}
    (hro : F.round = none) (h1 : 1 ≤ n) {gf : Nat} {lb : Array Value} (hg : a.eval g = .func (.func gf) #[] lb) (hFg : F.fn gf) (eg : ∀ args w, (callFunc gf args).run P w = .ok (.enter gf args) w)
    {encs : Nat → Array Value} {Kp : World → World → Prop} {N X : Nat} (hX : X < w.heap.size)
    (hseq : ∀ (l : Nat) (J : Nat → World → Prop) (W : World), Below w.heap.size w W → CalmB X J →
      (∀ k A, k < N → J k A → YieldAt F (n - 1 - 1) P l (encs k) A fun e B => e = .returned (.bool true) ∧ J (k + 1) B ∧ Kp A B) → J 0 W →
      CallsIn F (n - 1) P gf (#[.func (.yield l) #[] #[]] ++ lb) W fun e W' => (∃ v, e = .returned v) ∧ J N W')
    (hKt : ∀ {A B C : World}, Kp A B → Kp B C → Kp A C) (hKb : ∀ (W : World) (o : Obj), Kp W (W.putObj (w.heap.size + 1) o)) (hps : ∀ k, (encs k).size = ps.size)
    (I : Nat → World → Prop) (hIX : CalmB X I) (hIl : ∀ k A o, I k A → I k (A.putObj (w.heap.size + 1) o)) (h0 : I 0 w) (Asg : Nat → Act → World → Prop) (hAl : ∀ k a' A o, Asg k a' A → Asg k a' (A.putObj (w.heap.size + 1) o))
    (hKg : ∀ A W', w.heap.size ≤ A.heap.size → A.grownBy W' none → Kp A W')
    (hassign : ∀ (l : Nat) (k : Nat) (W : World) (K : Act → World → Prop), I k W → k < N → w.heap.size + 2 ≤ W.heap.size → (∀ a' W', W.grownBy W' none → Asg k a' W' → K a' W') →
      assign.wpIn (F.inRound l) (n - 1 - 1) P (Exit.then K (fun _ _ _ => False)) { tmps := (ps.zip (encs k)).foldl (fun t (p, v) => t.setIfInBounds p v) a.tmps, defers := [] } W)
    (hbody : ∀ (l : Nat) (k : Nat) (a' : Act) (W : World), Asg k a' W → k < N → (∃ o, W.heap[w.heap.size]? = some o ∧ o.isCells = false) → (∃ o, W.heap[w.heap.size + 1]? = some o ∧ o.isCells = false) → body.wpIn (F.inRound l) (n - 1 - 1) P (bodyQ Kp w.heap.size (I (k + 1)) W) a' W)
    (hdone : ∀ (W : World), I N W → W.heap[w.heap.size]? = some (.deferred (some [])) → Q .normal { a with defers := { target := .collected w.heap.size, args := #[] } :: a.defers } W) :
    (Code.rangeFunc g ps assign body).wpIn F n P Q a w := by
  refine wpIn_rangeFunc fun fn hfn => ?_
  rw [hro]
  obtain ⟨D, hD⟩ : ∃ D, w.heap.size = D := ⟨_, rfl⟩
  rw [hD] at hX hKb hIl hbody hdone hAl hKg hassign
  obtain ⟨rec, hrec⟩ : ∃ rec : LoopState → Loop, rec = fun st => { state := st, pending := none, fn, tmps := a.tmps, params := ps, assign, body, defers := D } := ⟨_, rfl⟩
  obtain ⟨V, hV⟩ : ∃ V, (w.alloc (.deferred (some []))).alloc (.loop (rec .ready)) = V := ⟨_, rfl⟩
  have zD : (w.alloc (.deferred (some []))).heap.size = D + 1 := by simp [hD]
  have fl : V.heap[D + 1]? = some (.loop (rec .ready)) := by rw [← hV, ← zD]; exact World.alloc_heap_new _ _
  have fd : V.heap[D]? = some (.deferred (some [])) := by
    rw [← hV]
    refine (Below.heap_alloc _ _ _ (by omega)).trans ?_
    rw [← hD]; exact World.alloc_heap_new w _
  have hVb : Below w.heap.size w V := by rw [← hV]; exact ((Below.refl _ w).alloc (Nat.le_refl _) _).alloc (by simp) _
  have hI0 : I 0 V := by
    rw [← hV]
    exact hIX 0 _ _ none (hIX 0 _ _ none h0 (World.grownBy_alloc w _ none) (fun _ e => by cases e)) (World.grownBy_alloc _ _ none) (fun _ e => by cases e)
  refine ⟨D + 1, [{ target := .collected D, args := #[] }], V, { target := .fn (.func gf) lb, args := #[.func (.yield (D + 1)) #[] #[]] }, V, gf, #[.func (.yield (D + 1)) #[] #[]] ++ lb, V, ?_, ?_, ?_, ?_, fun _ => h1, ?_⟩
  · have := run_enterLoop_outer (w := w) (P := P) fn a.tmps ps assign body
    rw [hD] at this
    rw [← hV, hrec]; exact this
  · simp only [resolve, hg]
    simp [go_sem]
  · intro f' hf'; simp [Target.leads] at hf'; subst hf'; exact hFg
  · simp [invoke, go_sem, eg]
  · refine (hseq (D + 1) (fun k W => I k W ∧ W.heap[D + 1]? = some (.loop (rec .ready)) ∧ W.heap[D]? = some (.deferred (some []))) V hVb ?_ ?_ ⟨hI0, fl, fd⟩).mono ?_
    · intro k A B row hs hgr hr
      have far : ∀ m, D ≤ m → some m ≠ row := fun m hm e => by have := hr m e.symm; omega
      exact ⟨hIX k A B row hs.1 hgr hr, (hgr.block _ (Array.getElem?_eq_some_iff.1 hs.2.1).1 (far _ (by omega))).trans hs.2.1, (hgr.block _ (Array.getElem?_eq_some_iff.1 hs.2.2).1 (far _ (Nat.le_refl _))).trans hs.2.2⟩
    · rintro k A hk ⟨hi, hl, hd⟩
      have hlt := (Array.getElem?_eq_some_iff.1 hl).1
      have hy := run_yield (P := P) (args := encs k) hl (by rw [hrec]; exact hps k)
      rw [hrec] at hy
      refine ⟨fn, _, assign, body, hy, roundIn_of_wpIn hfn (hassign _ k A _ hi hk (by omega) ?_)⟩
      intro a' A' hgr hasg
      have hlt' : D + 1 < A'.heap.size := Nat.lt_of_lt_of_le hlt hgr.size
      have hl' : A'.heap[D + 1]? = some (.loop (rec .ready)) := (hgr.block _ hlt (fun e => by cases e)).trans hl
      have hd' : A'.heap[D]? = some (.deferred (some [])) := (hgr.block _ (by omega) (fun e => by cases e)).trans hd
      refine ⟨_, run_beginRound hl' (by rw [hrec]), ?_⟩
      obtain ⟨A2, hA2⟩ : ∃ A2, A'.putObj (D + 1) (.loop { rec .ready with state := .busy }) = A2 := ⟨_, rfl⟩
      have hl2 : A2.heap[D + 1]? = some (.loop { rec .ready with state := .busy }) := by rw [← hA2]; exact World.putObj_heap_same hlt'
      have hd2 : A2.heap[D]? = some (.deferred (some [])) := by rw [← hA2]; exact (World.putObj_heap_other (by omega)).trans hd'
      have hk2 : Kp A A2 := by rw [← hA2]; exact hKt (hKg A A' (by omega) hgr) (hKb A' _)
      have hi2 : Asg k a' A2 := by rw [← hA2]; exact hAl k a' A' _ hasg
      rw [hA2]
      refine wpIn_mono (hbody _ k a' A2 hi2 hk ⟨_, hd2, rfl⟩ ⟨_, hl2, rfl⟩) ?_
      rintro e a3 B hp
      cases e with
      | normal =>
        obtain ⟨p1, p2, p3, p4⟩ := hp
        have hl3 := p3.trans hl2
        have hr := run_endRound (P := P) none hl3
        refine ⟨_, _, hr, rfl, ⟨hIl _ _ _ p4, ?_, (World.putObj_heap_other (by omega)).trans (p2.trans hd2)⟩, hKt (hKt hk2 p1) (hKb B _)⟩
        rw [World.putObj_heap_same (Array.getElem?_eq_some_iff.1 hl3).1, hrec]
        rfl
      | _ => exact hp.elim
    · rintro e B ⟨⟨v, rfl⟩, hi, hl, hd⟩
      refine ⟨none, _, by have := run_endLoop (P := P) hl (by rw [hrec]; simp); rw [hrec] at this; exact this, ?_⟩
      exact hdone _ (hIl _ _ _ hi) ((World.putObj_heap_other (by omega)).trans hd)
end Go.Proofs.Ytfadhgbhdoddpaa.RfB
