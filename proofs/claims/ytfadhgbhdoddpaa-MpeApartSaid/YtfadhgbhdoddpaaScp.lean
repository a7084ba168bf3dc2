/- Scopes whose labels are fallen into: each body is walked once. One label; two. -/
import Derived.WalkMore
import Derived.ScopeJumps
namespace Go.Proofs.Ytfadhgbhdoddpaa.Scp
open Go

section
variable {P : Program} {a : Act} {w : World} {Q : Exit → Act → World → Prop}
theorem wp_scope_one {c body : Code} (l : Nat) (J : Act → World → Prop) (μ : Act → World → Nat) (hf : findLabel c l = some (Code.skip.seq body))
    (pass : ∀ a w, J a w → body.wp P (Exit.jump l (fun a' w' => J a' w' ∧ μ a' w' < μ a w) Q) a w)
    (first : (∀ a w, J a w → body.wp P (Exit.jump l J Q) a w) → c.wp P (Exit.jump l J Q) a w) : (Code.scope c).wp P Q a w :=
  wp_scope_jumps l J μ hf (first fun a w h => Code.wp_mono (fun e a' w' hq => by cases e <;> first | exact hq | exact ⟨hq.1, hq.2.1⟩) (pass a w h))
    (fun a w h => wp_seq (wp_skip (pass a w h)))
/-- As Q; by a goto to label x: J0; to label y: J1; by any other goto: no way out. -/
def jump2 (x y : Nat) (J0 J1 : Act → World → Prop) (Q : Exit → Act → World → Prop) : Exit → Act → World → Prop
  | .goto l, a, w => (l = x ∧ J0 a w) ∨ (l = y ∧ J1 a w)
  | e, a, w => Q e a w
theorem wp_scope_two {c b0 b1 : Code} (x y : Nat) (J0 J1 : Act → World → Prop) (μ0 μ1 : Act → World → Nat) (h0 : findLabel c x = some (Code.skip.seq b0)) (h1 : findLabel c y = some (Code.skip.seq b1))
    (pass1 : ∀ a w, J1 a w → b1.wp P (jump2 x y (fun _ _ => False) (fun a' w' => J1 a' w' ∧ μ1 a' w' < μ1 a w) Q) a w)
    (pass0 : ∀ a w, J0 a w → (∀ a' w', J1 a' w' → b1.wp P (jump2 x y (fun a' w' => J0 a' w' ∧ μ0 a' w' < μ0 a w) J1 Q) a' w') → b0.wp P (jump2 x y (fun a' w' => J0 a' w' ∧ μ0 a' w' < μ0 a w) J1 Q) a w)
    (first : (∀ a' w', J0 a' w' → b0.wp P (jump2 x y J0 J1 Q) a' w') → (∀ a' w', J1 a' w' → b1.wp P (jump2 x y J0 J1 Q) a' w') → c.wp P (jump2 x y J0 J1 Q) a w) : (Code.scope c).wp P Q a w := by
  have p1 : ∀ (K : Act → World → Prop) a w, J1 a w → b1.wp P (jump2 x y K J1 Q) a w := fun K a w h => Code.wp_mono (fun e a' w' hq => by
    cases e <;> first | exact hq | (rcases hq with ⟨_, hq⟩ | ⟨hl, hq⟩; exact hq.elim; exact Or.inr ⟨hl, hq.1⟩)) (pass1 a w h)
  have p0 : ∀ a w, J0 a w → b0.wp P (jump2 x y (fun a' w' => J0 a' w' ∧ μ0 a' w' < μ0 a w) J1 Q) a w := fun a w h => pass0 a w h (p1 _)
  have p0' : ∀ a w, J0 a w → b0.wp P (jump2 x y J0 J1 Q) a w := fun a w h => Code.wp_mono (fun e a' w' hq => by
    cases e <;> first | exact hq | (rcases hq with ⟨hl, hq⟩ | ⟨hl, hq⟩; exact Or.inl ⟨hl, hq.1⟩; exact Or.inr ⟨hl, hq⟩)) (p0 a w h)
  have hfirst := first p0' (p1 J0)
  intro b k cs
  have hg0 : gotoIn x (.inScope c :: k) = some (.code (Code.skip.seq b0) :: .inScope c :: k) := by simp [gotoIn, h0]
  have hg1 : gotoIn y (.inScope c :: k) = some (.code (Code.skip.seq b1) :: .inScope c :: k) := by simp [gotoIn, h1]
  have key1 : ∀ n a w, μ1 a w = n → J1 a w → ∃ e a' w', Q e a' w' ∧ Arrives P (lone (b.at a (.code (Code.skip.seq b1) :: .inScope c :: k)) cs w) b k cs e a' w' := by
    intro n
    induction n using Nat.strongRecOn with
    | _ n ih =>
      intro a w hn hJ
      obtain ⟨e, a₁, w₁, hq, harr⟩ := wp_seq (wp_skip (pass1 a w hJ)) b (.inScope c :: k) cs
      cases e with
      | normal => exact ⟨.normal, a₁, w₁, hq, Steps.trans harr (.one step_inScope)⟩
      | exit id => exact ⟨.exit id, a₁, w₁, hq, fun k' hk => harr k' (by simp [exitTo, hk])⟩
      | goto l' =>
        rcases hq with ⟨_, hq⟩ | ⟨rfl, hJ', hlt⟩
        · exact hq.elim
        · obtain ⟨e₂, a₂, w₂, hq₂, harr₂⟩ := ih _ (by omega) a₁ w₁ rfl hJ'
          exact ⟨e₂, a₂, w₂, hq₂, .of_steps (harr _ hg1) harr₂⟩
      | ret => exact ⟨_, a₁, w₁, hq, harr⟩
      | panic ch => exact ⟨_, a₁, w₁, hq, harr⟩
      | outgrown => exact ⟨_, a₁, w₁, hq, harr⟩
  have key0 : ∀ n a w, μ0 a w = n → J0 a w → ∃ e a' w', Q e a' w' ∧ Arrives P (lone (b.at a (.code (Code.skip.seq b0) :: .inScope c :: k)) cs w) b k cs e a' w' := by
    intro n
    induction n using Nat.strongRecOn with
    | _ n ih =>
      intro a w hn hJ
      obtain ⟨e, a₁, w₁, hq, harr⟩ := wp_seq (wp_skip (p0 a w hJ)) b (.inScope c :: k) cs
      cases e with
      | normal => exact ⟨.normal, a₁, w₁, hq, Steps.trans harr (.one step_inScope)⟩
      | exit id => exact ⟨.exit id, a₁, w₁, hq, fun k' hk => harr k' (by simp [exitTo, hk])⟩
      | goto l' =>
        rcases hq with ⟨rfl, hJ', hlt⟩ | ⟨rfl, hJ'⟩
        · obtain ⟨e₂, a₂, w₂, hq₂, harr₂⟩ := ih _ (by omega) a₁ w₁ rfl hJ'
          exact ⟨e₂, a₂, w₂, hq₂, .of_steps (harr _ hg0) harr₂⟩
        · obtain ⟨e₂, a₂, w₂, hq₂, harr₂⟩ := key1 _ a₁ w₁ rfl hJ'
          exact ⟨e₂, a₂, w₂, hq₂, .of_steps (harr _ hg1) harr₂⟩
      | ret => exact ⟨_, a₁, w₁, hq, harr⟩
      | panic ch => exact ⟨_, a₁, w₁, hq, harr⟩
      | outgrown => exact ⟨_, a₁, w₁, hq, harr⟩
  obtain ⟨e, a₁, w₁, hq, harr⟩ := hfirst b (.inScope c :: k) cs
  cases e with
  | normal => exact ⟨.normal, a₁, w₁, hq, .head step_scope (Steps.trans harr (.one step_inScope))⟩
  | exit id => exact ⟨.exit id, a₁, w₁, hq, fun k' hk => .head step_scope (harr k' (by simp [exitTo, hk]))⟩
  | goto l' =>
    rcases hq with ⟨rfl, hJ'⟩ | ⟨rfl, hJ'⟩
    · obtain ⟨e₂, a₂, w₂, hq₂, harr₂⟩ := key0 _ a₁ w₁ rfl hJ'
      exact ⟨e₂, a₂, w₂, hq₂, .of_steps (.head step_scope (harr _ hg0)) harr₂⟩
    · obtain ⟨e₂, a₂, w₂, hq₂, harr₂⟩ := key1 _ a₁ w₁ rfl hJ'
      exact ⟨e₂, a₂, w₂, hq₂, .of_steps (.head step_scope (harr _ hg1)) harr₂⟩
  | ret => exact ⟨_, a₁, w₁, hq, .of_steps (.one step_scope) harr⟩
  | panic ch => exact ⟨_, a₁, w₁, hq, .of_steps (.one step_scope) harr⟩
  | outgrown => exact ⟨_, a₁, w₁, hq, .of_steps (.one step_scope) harr⟩
end
end Go.Proofs.Ytfadhgbhdoddpaa.Scp
