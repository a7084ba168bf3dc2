/- Two gatherers and a slice of sections, apart from each other. -/
import Derived.Test.YthgcmlhmhojjhaaGreatDoorSbBuT
import Derived.Test.YthgcmlhmhojjhaaGreatDoorSbGtA
namespace Go.Proofs.YthgcmlhmhojjhaaGreatDoor.BoM
open Go Go.RowKit Go.Proofs.YthgcmlhmhojjhaaGreatDoor.Q Go.Proofs.YthgcmlhmhojjhaaGreatDoor.Mem Go.Proofs.YthgcmlhmhojjhaaGreatDoor.Rg Go.Proofs.YthgcmlhmhojjhaaGreatDoor.Ap Go.Proofs.YthgcmlhmhojjhaaGreatDoor.St Go.Proofs.YthgcmlhmhojjhaaGreatDoor.CrB Go.Proofs.YthgcmlhmhojjhaaGreatDoor.TbM Go.Proofs.YthgcmlhmhojjhaaGreatDoor.TbO Go.Proofs.YthgcmlhmhojjhaaGreatDoor.TbP Go.Proofs.YthgcmlhmhojjhaaGreatDoor.BuE Go.Proofs.YthgcmlhmhojjhaaGreatDoor.BuI Go.Proofs.YthgcmlhmhojjhaaGreatDoor.BuN

theorem seq_kept {α : Type} {en : α → List Value} {sz : Nat} {w w' : World} {a : Option Addr} {L : List α} {F : Nat → Prop} (h : Seq en sz w a L) (k : Kept F w w') (hF : ∀ b o, a = some ⟨b, o, none⟩ → ¬ F b) : Seq en sz w' a L := fun i x hi => by
  obtain ⟨b, o, e, hlt, hc⟩ := h i x hi
  exact ⟨b, o, e, Nat.lt_of_lt_of_le hlt k.size, fun j u hj => (k.cell (p := ⟨b, o + off sz i + j, none⟩) hlt (hF b o e)).trans (hc j u hj)⟩
section
variable {w w' : World} {B g gt gr : Nat} {v v' : Value} {S S' : Tb} {mac : Int} {n n' : Nat} {F : Nat → Prop}
theorem ga_kept (h : GaA w B g gt gr v S mac n) (k : Kept F w w') (hF : ∀ i, footG g gt gr v i → ¬ F i) : GaA w' B g gt gr v S mac n :=
  ⟨⟨(k.block g (Blk.lt h.box) (hF g (Or.inl rfl))).trans h.box, h.t.kept k (fun i hi => hF i (Or.inr hi)), h.gb⟩, h.ap⟩
theorem foot_far {i : Nat} (hf : far w v v') (h : footG g gt gr v' i) : footG g gt gr v i ∨ w.heap.size ≤ i := by
  rcases h with e | e | e | e
  · exact Or.inl (Or.inl e)
  · exact Or.inl (Or.inr (Or.inl e))
  · exact Or.inl (Or.inr (Or.inr (Or.inl e)))
  · rcases hf with h1 | ⟨j, h1, h2⟩
    · exact Or.inl (Or.inr (Or.inr (Or.inr (h1 ▸ e))))
    · rw [h1] at e
      injection e with e
      exact Or.inr (e ▸ h2)
/-- a gatherer and a slice of sections -/
structure Gs (w : World) (B g gt gr : Nat) (v : Value) (S : Tb) (mac : Int) (n : Nat) (mb mo : Nat) (M : List ByteArray) : Prop where
  a : GaA w B g gt gr v S mac n
  ma : ¬ footG g gt gr v mb
  m : Seq enS 1 w (some ⟨mb, mo, none⟩) M
  lt : mb < w.heap.size
variable {mb mo : Nat} {M : List ByteArray}
theorem Gs.below (h : Gs w B g gt gr v S mac n mb mo M) (k : Below w.heap.size w w') : Gs w' B g gt gr v S mac n mb mo M := ⟨h.a.below k, h.ma, h.m.below (Nat.le_refl _) k, Nat.lt_of_lt_of_le h.lt k.size⟩
theorem Gs.step (h : Gs w B g gt gr v S mac n mb mo M) (ha : GaA w' B g gt gr v' S' mac n') (hf : far w v v') (k : Kept (footG g gt gr v) w w') : Gs w' B g gt gr v' S' mac n' mb mo M :=
  ⟨ha, fun e => (foot_far hf e).elim h.ma (fun e => by have := h.lt; omega), seq_kept h.m k (fun b o e => by injection e with e; injection e with e _; exact e ▸ h.ma), Nat.lt_of_lt_of_le h.lt k.size⟩
end
/-- two gatherers and a slice of sections -/
structure Pr (w : World) (Ba ga gta gra : Nat) (va : Value) (T : Tb) (n : Nat) (Bb gb gtb grb : Nat) (vb : Value) (U : Tb) (k : Nat) (mb mo : Nat) (M : List ByteArray) : Prop where
  a : Gs w Ba ga gta gra va T (-1) n mb mo M
  b : Gs w Bb gb gtb grb vb U (-1) k mb mo M
  ap : ∀ i, footG ga gta gra va i → ¬ footG gb gtb grb vb i
section
variable {w w' : World} {Ba ga gta gra Bb gb gtb grb n k n' k' mb mo : Nat} {va vb va' vb' : Value} {T T' U U' : Tb} {M : List ByteArray}
theorem Pr.symm (h : Pr w Ba ga gta gra va T n Bb gb gtb grb vb U k mb mo M) : Pr w Bb gb gtb grb vb U k Ba ga gta gra va T n mb mo M := ⟨h.b, h.a, fun i h1 h2 => h.ap i h2 h1⟩
theorem Pr.below (h : Pr w Ba ga gta gra va T n Bb gb gtb grb vb U k mb mo M) (b : Below w.heap.size w w') : Pr w' Ba ga gta gra va T n Bb gb gtb grb vb U k mb mo M := ⟨h.a.below b, h.b.below b, h.ap⟩
theorem Pr.left (h : Pr w Ba ga gta gra va T n Bb gb gtb grb vb U k mb mo M) (ha : GaA w' Ba ga gta gra va' T' (-1) n') (hf : far w va va') (q : Kept (footG ga gta gra va) w w') : Pr w' Ba ga gta gra va' T' n' Bb gb gtb grb vb U k mb mo M :=
  ⟨h.a.step ha hf q, ⟨ga_kept h.b.a q (fun i hi hi2 => h.ap i hi2 hi), h.b.ma, (h.a.step ha hf q).m, Nat.lt_of_lt_of_le h.b.lt q.size⟩,
   fun i hi hi2 => (foot_far hf hi).elim (fun e => h.ap i e hi2) (fun e => by have := (h.b.a.ge i hi2).2; omega)⟩
theorem Pr.right (h : Pr w Ba ga gta gra va T n Bb gb gtb grb vb U k mb mo M) (hb : GaA w' Bb gb gtb grb vb' U' (-1) k') (hf : far w vb vb') (q : Kept (footG gb gtb grb vb) w w') : Pr w' Ba ga gta gra va T n Bb gb gtb grb vb' U' k' mb mo M := (h.symm.left hb hf q).symm
end
end Go.Proofs.YthgcmlhmhojjhaaGreatDoor.BoM
