/- The law's sent: a frame's datagrams, put into a table: plain. -/
import Derived.Test.YthgcmlhmhojjhaaGreatDoorLaG
import Derived.Test.YthgcmlhmhojjhaaGreatDoorLaB
namespace Go.Proofs.YthgcmlhmhojjhaaGreatDoor.LaH
open Go Go.RowKit Go.Proofs.YthgcmlhmhojjhaaGreatDoor.Q Go.Proofs.YthgcmlhmhojjhaaGreatDoor.Mem Go.Proofs.YthgcmlhmhojjhaaGreatDoor.Rg Go.Proofs.YthgcmlhmhojjhaaGreatDoor.Ap Go.Proofs.YthgcmlhmhojjhaaGreatDoor.St Go.Proofs.YthgcmlhmhojjhaaGreatDoor.DgC Go.Proofs.YthgcmlhmhojjhaaGreatDoor.TbM Go.Proofs.YthgcmlhmhojjhaaGreatDoor.TbO Go.Proofs.YthgcmlhmhojjhaaGreatDoor.TbP Go.Proofs.YthgcmlhmhojjhaaGreatDoor.FrA Go.Proofs.YthgcmlhmhojjhaaGreatDoor.FrB Go.Proofs.YthgcmlhmhojjhaaGreatDoor.LaA

/-- datagrams, one behind the other, from a to b -/
def Chain : Nat → List (Nat × ByteArray) → Nat → Prop
  | a, [], b => a = b
  | a, (p, d) :: t, b => p = a ∧ dgE d = 0 ∧ Chain (a + d.size) t b
theorem chain_snoc : ∀ {L : List (Nat × ByteArray)} {a b : Nat} {d : ByteArray}, Chain a L b → dgE d = 0 → Chain a (L ++ [(b, d)]) (b + d.size)
  | [], a, b, d, h, hd => ⟨Eq.symm h, hd, by rw [show a = b from h]; rfl⟩
  | (p, x) :: t, a, b, d, ⟨h1, h2, h3⟩, hd => ⟨h1, h2, chain_snoc h3 hd⟩
theorem chain_le : ∀ {L : List (Nat × ByteArray)} {a b : Nat}, Chain a L b → a ≤ b
  | [], a, b, h => Nat.le_of_eq h
  | (p, x) :: t, a, b, ⟨_, _, h3⟩ => by have := chain_le h3; omega
theorem chain_in : ∀ {L : List (Nat × ByteArray)} {a b : Nat}, Chain a L b → ∀ x ∈ L, a ≤ x.1 ∧ x.1 + x.2.size ≤ b ∧ dgE x.2 = 0
  | [], a, b, h, x, hx => by cases hx
  | (p, d) :: t, a, b, ⟨h1, h2, h3⟩, x, hx => by
    have h4 := chain_le h3
    rcases List.mem_cons.1 hx with rfl | hx
    · exact ⟨Nat.le_of_eq h1.symm, by subst h1; exact h4, h2⟩
    · have := chain_in h3 x hx
      exact ⟨by omega, this.2⟩
structure OkL (S : Fr) : Prop where
  ok : OkF S
  ch : Chain 0 S.L S.used
theorem empty_okL {R C K : Nat} (hR : R ≤ 1024) (hR0 : 0 < R) (hC : C ≤ 191) : OkL (emptyF R C K) := ⟨⟨hR, hR0, hC, Nat.zero_le _, Nat.le_refl _⟩, rfl⟩
theorem add_okL {S : Fr} (h : OkL S) (d : ByteArray) : OkL (addS S d) := by
  refine ⟨add_ok h.ok d, ?_⟩
  unfold addS
  split
  · exact h.ch
  · rename_i h1
    have h1 : addE S d = 0 := by simpa using h1
    have hd : dgE d = 0 := by
      unfold addE at h1
      split at h1
      · rename_i h2; exact absurd h1 h2
      · rename_i h2; simpa using h2
    exact chain_snoc h.ch hd
theorem add_R (S : Fr) (d : ByteArray) : (addS S d).R = S.R ∧ (addS S d).C = S.C ∧ (addS S d).K = S.K := by unfold addS; split <;> exact ⟨rfl, rfl, rfl⟩
/-- the frame behind k datagrams -/
def frK (R C K : Nat) (l : List Int) (k : Nat) : Fr := (List.range k).foldl (fun S i => addS S (madeD (l.getD i 0) i)) (emptyF R C K)
theorem frK_succ (R C K : Nat) (l : List Int) (k : Nat) : frK R C K l (k + 1) = addS (frK R C K l k) (madeD (l.getD k 0) k) := by unfold frK; rw [List.range_succ, List.foldl_append]; rfl
theorem frK_R (R C K : Nat) (l : List Int) (k : Nat) : (frK R C K l k).R = R ∧ (frK R C K l k).C = C ∧ (frK R C K l k).K = K := by
  induction k with
  | zero => exact ⟨rfl, rfl, rfl⟩
  | succ k ih => rw [frK_succ]; have := add_R (frK R C K l k) (madeD (l.getD k 0) k); rw [this.1, this.2.1, this.2.2]; exact ih
theorem frK_ok {R C K : Nat} (hR : R ≤ 1024) (hR0 : 0 < R) (hC : C ≤ 191) (l : List Int) (k : Nat) : OkL (frK R C K l k) := by
  induction k with
  | zero => exact empty_okL hR hR0 hC
  | succ k ih => rw [frK_succ]; exact add_okL ih _
theorem add_len (S : Fr) (d : ByteArray) : (addS S d).L.length ≤ S.L.length + 1 := by unfold addS; split <;> simp
theorem frK_len (R C K : Nat) (l : List Int) (k : Nat) : (frK R C K l k).L.length ≤ k := by
  induction k with
  | zero => exact Nat.le_refl _
  | succ k ih => rw [frK_succ]; have := add_len (frK R C K l k) (madeD (l.getD k 0) k); omega
/-- a table behind k of the datagrams that are placed, some being lost -/
def tbK (L : List (Nat × ByteArray)) (g : List Int) (T : Tb) (k : Nat) : Tb := (List.range k).foldl (fun S (i : Nat) => if (i : Int) ∈ g then S else putS S ((L.getD i (0, nob)).1 : Int) (L.getD i (0, nob)).2) T
theorem tbK_succ (L : List (Nat × ByteArray)) (g : List Int) (T : Tb) (k : Nat) : tbK L g T (k + 1) = if (k : Int) ∈ g then tbK L g T k else putS (tbK L g T k) ((L.getD k (0, nob)).1 : Int) (L.getD k (0, nob)).2 := by unfold tbK; rw [List.range_succ, List.foldl_append]; rfl
/-- and behind k columns of parity, some being lost -/
def tbM (M : List ByteArray) (p : List Int) (T : Tb) (k : Nat) : Tb := (List.range k).foldl (fun S (i : Nat) => if (i : Int) ∈ p then S else TbR.parS S (i : Int) (M.getD i nob)) T
theorem tbM_succ (M : List ByteArray) (p : List Int) (T : Tb) (k : Nat) : tbM M p T (k + 1) = if (k : Int) ∈ p then tbM M p T k else TbR.parS (tbM M p T k) (k : Int) (M.getD k nob) := by unfold tbM; rw [List.range_succ, List.foldl_append]; rfl
theorem tbK_ok (L : List (Nat × ByteArray)) (g : List Int) {T : Tb} (h : Ok T) (h0 : T.st.length ≤ 10) (k : Nat) (hk : k ≤ 1000) : Ok (tbK L g T k) ∧ (tbK L g T k).st.length ≤ T.st.length + k ∧ (tbK L g T k).R = T.R := by
  induction k with
  | zero => exact ⟨h, Nat.le_refl _, rfl⟩
  | succ k ih =>
    obtain ⟨h1, h2, h3⟩ := ih (by omega)
    rw [tbK_succ]
    split
    · exact ⟨h1, by omega, h3⟩
    · have h4 := LaB.put_ok h1 (by omega) ((L.getD k (0, nob)).1 : Int) (L.getD k (0, nob)).2
      exact ⟨h4.1, by omega, by rw [put_R]; exact h3⟩
theorem tbM_ok (M : List ByteArray) (p : List Int) {T : Tb} (h : Ok T) (k : Nat) : Ok (tbM M p T k) ∧ (tbM M p T k).st = T.st ∧ (tbM M p T k).R = T.R := by
  induction k with
  | zero => exact ⟨h, rfl, rfl⟩
  | succ k ih =>
    rw [tbM_succ]
    split
    · exact ih
    · have h4 := LaB.par_ok ih.1 (k : Int) (M.getD k nob)
      exact ⟨h4.1, h4.2.1.trans ih.2.1, h4.2.2.trans ih.2.2⟩
/-- a frame and a table, apart from each other -/
structure FT (w : World) (B gf gr : Nat) (v : Value) (F : Fr) (gt g2 : Nat) (u : Value) (T : Tb) : Prop where
  f : FrIn w B gf gr v F
  t : TbIn w B gt g2 u T
  ap : ∀ i, footF gf gr v i → ¬ foot gt g2 u i
section
variable {w w' : World} {B gf gr gt g2 : Nat} {v v' u u' : Value} {F F' : Fr} {T T' : Tb}
theorem FT.below (h : FT w B gf gr v F gt g2 u T) (k : Below w.heap.size w w') : FT w' B gf gr v F gt g2 u T := ⟨h.f.below k, h.t.below k, h.ap⟩
theorem FT.ge (h : FT w B gf gr v F gt g2 u T) : ∀ i, (footF gf gr v i ∨ foot gt g2 u i) → B ≤ i ∧ i < w.heap.size := fun i hi => hi.elim (h.f.ge i) (h.t.ge i)
theorem FT.base {B' : Nat} (h : FT w B gf gr v F gt g2 u T) (hB : B' ≤ B) : FT w B' gf gr v F gt g2 u T :=
  ⟨⟨h.f.box, h.f.rows, ApG.own_base h.f.l hB, h.f.ne, h.f.nt, h.f.nr, Nat.le_trans hB h.f.bt, Nat.le_trans hB h.f.br⟩,
   ⟨h.t.box, h.t.rows, ApG.own_base h.t.st hB, h.t.ne, h.t.nt, h.t.nr, Nat.le_trans hB h.t.bt, Nat.le_trans hB h.t.br⟩, h.ap⟩
/-- the frame turned -/
theorem FT.frame (h : FT w B gf gr v F gt g2 u T) (hf : FrIn w' B gf gr v' F') (hfar : far w v v') (k : Kept (footF gf gr v) w w') : FT w' B gf gr v' F' gt g2 u T := by
  refine ⟨hf, h.t.kept k (fun i hi hi2 => h.ap i hi2 hi), fun i hi ht => ?_⟩
  rcases hi with e | e | e
  · exact h.ap i (Or.inl e) ht
  · exact h.ap i (Or.inr (Or.inl e)) ht
  · rcases hfar with h1 | ⟨j, h1, h2⟩
    · exact h.ap i (Or.inr (Or.inr (h1 ▸ e))) ht
    · rw [h1] at e
      injection e with e
      have := (h.t.ge i ht).2
      omega
/-- the table turned -/
theorem FT.table (h : FT w B gf gr v F gt g2 u T) (ht : TbIn w' B gt g2 u' T') (hfar : far w u u') (k : Kept (foot gt g2 u) w w') : FT w' B gf gr v F gt g2 u' T' := by
  refine ⟨h.f.kept k (fun i hi => h.ap i hi), ht, fun i hi ht2 => ?_⟩
  rcases ht2 with e | e | e
  · exact h.ap i hi (Or.inl e)
  · exact h.ap i hi (Or.inr (Or.inl e))
  · rcases hfar with h1 | ⟨j, h1, h2⟩
    · exact h.ap i hi (Or.inr (Or.inr (h1 ▸ e)))
    · rw [h1] at e
      injection e with e
      have := (h.f.ge i hi).2
      omega
end
theorem far_refl (w : World) (v : Value) : far w v v := Or.inl rfl
end Go.Proofs.YthgcmlhmhojjhaaGreatDoor.LaH
