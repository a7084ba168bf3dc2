/- TableOrder: a table that is filled in the other order is the same (plain); two tables beside a frame. -/
import Derived.Test.YtlocgilgdnhnlaaGreatDoorLaR
namespace Go.Proofs.YtlocgilgdnhnlaaGreatDoor.LaS
open Go Go.RowKit Go.Proofs.YtlocgilgdnhnlaaGreatDoor.Q Go.Proofs.YtlocgilgdnhnlaaGreatDoor.Mem Go.Proofs.YtlocgilgdnhnlaaGreatDoor.Rg Go.Proofs.YtlocgilgdnhnlaaGreatDoor.Ap Go.Proofs.YtlocgilgdnhnlaaGreatDoor.St Go.Proofs.YtlocgilgdnhnlaaGreatDoor.DgC Go.Proofs.YtlocgilgdnhnlaaGreatDoor.TlS Go.Proofs.YtlocgilgdnhnlaaGreatDoor.TbM Go.Proofs.YtlocgilgdnhnlaaGreatDoor.TbO Go.Proofs.YtlocgilgdnhnlaaGreatDoor.TbP Go.Proofs.YtlocgilgdnhnlaaGreatDoor.TbQ Go.Proofs.YtlocgilgdnhnlaaGreatDoor.FrA Go.Proofs.YtlocgilgdnhnlaaGreatDoor.FrB Go.Proofs.YtlocgilgdnhnlaaGreatDoor.LaH Go.Proofs.YtlocgilgdnhnlaaGreatDoor.LaI Go.Proofs.YtlocgilgdnhnlaaGreatDoor.LaP Go.Proofs.YtlocgilgdnhnlaaGreatDoor.LaQ Go.Proofs.YtlocgilgdnhnlaaGreatDoor.LaR

def rev (m j : Nat) : Nat := m - 1 - j
/-- the table, filled from the end -/
def urS (F : Fr) (pad : Bool) : Tb := if pad then TbR.padS (emptyT 256) (padN F : Nat) else emptyT 256
def upS (F : Fr) (n : Nat) (p : List Int) (pad : Bool) (k : Nat) : Tb := tbP (FrC.parL F n) p (rev n) (urS F pad) k
def ugS (F : Fr) (n : Nat) (g p : List Int) (pad : Bool) (k : Nat) : Tb := tbG F.L g (rev F.L.length) (upS F n p pad n) k
theorem tbP_ok (M : List ByteArray) (p : List Int) (f : Nat → Nat) {T : Tb} (h : Ok T) (k : Nat) : Ok (tbP M p f T k) ∧ (tbP M p f T k).st = T.st ∧ (tbP M p f T k).R = T.R := by
  induction k with
  | zero => exact ⟨h, rfl, rfl⟩
  | succ k ih =>
    rw [tbP_succ]
    split
    · exact ih
    · have h4 := LaB.par_ok ih.1 ((f k : Nat) : Int) (M.getD (f k) nob)
      exact ⟨h4.1, h4.2.1.trans ih.2.1, h4.2.2.trans ih.2.2⟩
theorem tbG_ok (L : List (Nat × ByteArray)) (g : List Int) (f : Nat → Nat) {T : Tb} (h : Ok T) (h0 : T.st.length ≤ 10) (k : Nat) (hk : k ≤ 1000) : Ok (tbG L g f T k) ∧ (tbG L g f T k).st.length ≤ T.st.length + k ∧ (tbG L g f T k).R = T.R := by
  induction k with
  | zero => exact ⟨h, Nat.le_refl _, rfl⟩
  | succ k ih =>
    obtain ⟨h1, h2, h3⟩ := ih (by omega)
    rw [tbG_succ]
    split
    · exact ⟨h1, by omega, h3⟩
    · have h4 := LaB.put_ok h1 (by omega) ((L.getD (f k) (0, nob)).1 : Int) (L.getD (f k) (0, nob)).2
      exact ⟨h4.1, by omega, by rw [put_R]; exact h3⟩
theorem ur_ok (F : Fr) (pad : Bool) : Ok (urS F pad) ∧ (urS F pad).st = [] ∧ (urS F pad).R = 256 := by
  have h := LaB.empty_ok (R := 256) (by decide) (by decide)
  unfold urS
  cases pad with
  | false => exact ⟨h, rfl, rfl⟩
  | true =>
    have h2 := LaB.pad_ok h (padN F : Nat)
    exact ⟨h2.1, h2.2.1, h2.2.2⟩
theorem up_ok (F : Fr) (n : Nat) (p : List Int) (pad : Bool) (k : Nat) : Ok (upS F n p pad k) ∧ (upS F n p pad k).st = [] ∧ (upS F n p pad k).R = 256 := by
  have h := ur_ok F pad
  have h2 := tbP_ok (FrC.parL F n) p (rev n) h.1 k
  exact ⟨h2.1, h2.2.1.trans h.2.1, h2.2.2.trans h.2.2⟩
theorem ug_ok (F : Fr) (n : Nat) (g p : List Int) (pad : Bool) (k : Nat) (hk : k ≤ 1000) : Ok (ugS F n g p pad k) ∧ (ugS F n g p pad k).st.length ≤ k ∧ (ugS F n g p pad k).R = 256 := by
  have h := up_ok F n p pad n
  have h2 := tbG_ok F.L g (rev F.L.length) h.1 (by rw [h.2.1]; simp) k hk
  refine ⟨h2.1, ?_, h2.2.2.trans h.2.2⟩
  have := h2.2.1
  rw [h.2.1] at this
  simpa [ugS] using this
theorem rev_rev {m j : Nat} (h : j < m) : rev m (rev m j) = j := by unfold rev; omega
theorem rev_lt {m j : Nat} (h : j < m) : rev m j < m := by unfold rev; omega
/-- the order does not count -/
theorem order {F : Fr} (hl : LayF F) (hR : F.R = 256) (ho : OkL F) (hL : F.L.length ≤ 20) (n : Nat) (hn : n ≤ 64) (g p : List Int) (pad : Bool) {T : Tb} (hT : Kn F T (AF F n g p pad) (BF F g)) (hok : Ok T) : ugS F n g p pad F.L.length = T := by
  have h0 : Kn F (urS F pad) (fun q => pad = true ∧ (191 - padN F) * 256 ≤ q ∧ q < 191 * 256) (fun _ => False) := by
    unfold urS
    cases pad with
    | false => exact (kn_empty F).congr (fun q => ⟨False.elim, fun e => by cases e.1⟩) (fun q => Iff.rfl)
    | true => exact (kn_pad (kn_empty F) hl hR ho).congr (fun q => ⟨fun e => e.elim False.elim (fun e => ⟨rfl, e⟩), fun e => Or.inr e.2⟩) (fun q => Iff.rfl)
  have h1 := kn_pars h0 hR n hn p (rev n) n (fun j hj => rev_lt hj)
  have h2 := kn_grams h1 hl hR ho g (rev F.L.length) F.L.length (fun j hj => rev_lt hj)
  refine kn_eq (A := AF F n g p pad) (B := BF F g) (h2.congr (fun q => ?_) (fun q => ?_)) hT (ug_ok F n g p pad F.L.length (by omega)).1 hok
  · have e1 : inG F.L g (rev F.L.length) F.L.length q ↔ inG F.L g id F.L.length q := by
      constructor
      · rintro ⟨j, x, a1, a2, a3, a4⟩
        exact ⟨rev F.L.length j, x, rev_lt a1, a2, a3, a4⟩
      · rintro ⟨j, x, a1, a2, a3, a4⟩
        exact ⟨rev F.L.length j, x, rev_lt a1, by rw [rev_rev a1]; exact a2, by rw [rev_rev a1]; exact a3, a4⟩
    have e2 : inP p (rev n) n q ↔ inP p id n q := by
      constructor
      · rintro ⟨j, a1, a2, a3⟩
        exact ⟨rev n j, rev_lt a1, a2, a3⟩
      · rintro ⟨j, a1, a2, a3⟩
        exact ⟨rev n j, rev_lt a1, by rw [rev_rev a1]; exact a2, by rw [rev_rev a1]; exact a3⟩
    unfold AF
    rw [e1, e2]
    exact ⟨fun e => e.elim (fun e => e.elim (fun e => Or.inr (Or.inr e)) (fun e => Or.inr (Or.inl e))) Or.inl, fun e => e.elim Or.inr (fun e => e.elim (fun e => Or.inl (Or.inr e)) (fun e => Or.inl (Or.inl e)))⟩
  · unfold BF
    constructor
    · rintro (e | ⟨j, x, a1, a2, a3, a4⟩)
      · exact e.elim
      · exact ⟨rev F.L.length j, x, rev_lt a1, a2, a3, a4⟩
    · rintro ⟨j, x, a1, a2, a3, a4⟩
      exact Or.inr ⟨rev F.L.length j, x, rev_lt a1, by rw [rev_rev a1]; exact a2, by rw [rev_rev a1]; exact a3, a4⟩
/-- two tables and a frame, apart from each other -/
structure Two (w : World) (B gf gr : Nat) (v : Value) (F : Fr) (gt g2 : Nat) (u : Value) (T : Tb) (gu g3 : Nat) (x : Value) (U : Tb) : Prop where
  a : FT w B gf gr v F gt g2 u T
  b : FT w B gf gr v F gu g3 x U
  ap : ∀ i, foot gt g2 u i → ¬ foot gu g3 x i
section
variable {w w' : World} {B gf gr gt g2 gu g3 : Nat} {v v' u u' x x' : Value} {F F' : Fr} {T T' U U' : Tb}
theorem Two.below (h : Two w B gf gr v F gt g2 u T gu g3 x U) (k : Below w.heap.size w w') : Two w' B gf gr v F gt g2 u T gu g3 x U := ⟨h.a.below k, h.b.below k, h.ap⟩
theorem Two.frame (h : Two w B gf gr v F gt g2 u T gu g3 x U) (hf : FrIn w' B gf gr v' F') (hfar : far w v v') (k : Kept (footF gf gr v) w w') : Two w' B gf gr v' F' gt g2 u T gu g3 x U := ⟨h.a.frame hf hfar k, h.b.frame hf hfar k, h.ap⟩
theorem Two.right (h : Two w B gf gr v F gt g2 u T gu g3 x U) (ht : TbIn w' B gu g3 x' U') (hfar : far w x x') (k : Kept (foot gu g3 x) w w') : Two w' B gf gr v F gt g2 u T gu g3 x' U' := by
  refine ⟨⟨h.a.f.kept k (fun i hi => h.b.ap i hi), h.a.t.kept k (fun i hi => h.ap i hi), h.a.ap⟩, h.b.table ht hfar k, fun i hi ht2 => ?_⟩
  rcases ht2 with e | e | e
  · exact h.ap i hi (Or.inl e)
  · exact h.ap i hi (Or.inr (Or.inl e))
  · rcases hfar with h1 | ⟨j, h1, h2⟩
    · exact h.ap i hi (Or.inr (Or.inr (h1 ▸ e)))
    · rw [h1] at e
      injection e with e
      have := (h.a.t.ge i hi).2
      omega
theorem Two.left (h : Two w B gf gr v F gt g2 u T gu g3 x U) (ht : TbIn w' B gt g2 u T') (k : Kept (foot gt g2 u) w w') : Two w' B gf gr v F gt g2 u T' gu g3 x U :=
  ⟨h.a.table ht (far_refl _ _) k, ⟨h.b.f.kept k (fun i hi => h.a.ap i hi), h.b.t.kept k (fun i hi hi2 => h.ap i hi2 hi), h.b.ap⟩, h.ap⟩
end
end Go.Proofs.YtlocgilgdnhnlaaGreatDoor.LaS
