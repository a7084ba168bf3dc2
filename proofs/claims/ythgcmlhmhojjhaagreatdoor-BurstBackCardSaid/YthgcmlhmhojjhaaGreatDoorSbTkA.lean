/- BurstTakes: which sections a gatherer takes, walked. -/
import Derived.Test.YthgcmlhmhojjhaaGreatDoorSbPkX
namespace Go.Proofs.YthgcmlhmhojjhaaGreatDoor.TkA
open Go Go.RowKit Go.Proofs.YthgcmlhmhojjhaaGreatDoor.Q Go.Proofs.YthgcmlhmhojjhaaGreatDoor.Mem Go.Proofs.YthgcmlhmhojjhaaGreatDoor.Rg Go.Proofs.YthgcmlhmhojjhaaGreatDoor.Ap Go.Proofs.YthgcmlhmhojjhaaGreatDoor.St Go.Proofs.YthgcmlhmhojjhaaGreatDoor.CrB Go.Proofs.YthgcmlhmhojjhaaGreatDoor.Ints Go.Proofs.YthgcmlhmhojjhaaGreatDoor.Tab Go.Proofs.YthgcmlhmhojjhaaGreatDoor.TmA Go.Proofs.YthgcmlhmhojjhaaGreatDoor.TbM Go.Proofs.YthgcmlhmhojjhaaGreatDoor.TbO Go.Proofs.YthgcmlhmhojjhaaGreatDoor.TbP Go.Proofs.YthgcmlhmhojjhaaGreatDoor.FrA Go.Proofs.YthgcmlhmhojjhaaGreatDoor.FrB Go.Proofs.YthgcmlhmhojjhaaGreatDoor.FrC Go.Proofs.YthgcmlhmhojjhaaGreatDoor.LaA Go.Proofs.YthgcmlhmhojjhaaGreatDoor.LaH Go.Proofs.YthgcmlhmhojjhaaGreatDoor.BuA Go.Proofs.YthgcmlhmhojjhaaGreatDoor.BuB Go.Proofs.YthgcmlhmhojjhaaGreatDoor.BuC Go.Proofs.YthgcmlhmhojjhaaGreatDoor.BuD Go.Proofs.YthgcmlhmhojjhaaGreatDoor.BuE Go.Proofs.YthgcmlhmhojjhaaGreatDoor.BuF Go.Proofs.YthgcmlhmhojjhaaGreatDoor.BuG Go.Proofs.YthgcmlhmhojjhaaGreatDoor.BuI Go.Proofs.YthgcmlhmhojjhaaGreatDoor.BuJ Go.Proofs.YthgcmlhmhojjhaaGreatDoor.BuL Go.Proofs.YthgcmlhmhojjhaaGreatDoor.BuN Go.Proofs.YthgcmlhmhojjhaaGreatDoor.BuO Go.Proofs.YthgcmlhmhojjhaaGreatDoor.BuP Go.Proofs.YthgcmlhmhojjhaaGreatDoor.BuS

set_option maxRecDepth 100000
theorem tk_err {R : Nat} {mac : Int} {t : ByteArray} (h : tmE t ≠ 0) : tkE R mac t = tmE t := by
  unfold tmE at h ⊢
  unfold tkE
  cases hM : isM t with
  | true =>
    rw [hM, if_pos rfl] at h
    rw [if_pos rfl, if_pos rfl]
    unfold grmE
    rw [if_pos h]
  | false =>
    rw [hM, if_neg Bool.false_ne_true] at h
    rw [if_neg Bool.false_ne_true, if_neg Bool.false_ne_true]
    cases hF : isF t with
    | true =>
      rw [hF, if_pos rfl] at h
      rw [if_pos rfl, if_pos rfl]
      unfold colE
      rw [if_pos h]
    | false => rw [if_neg Bool.false_ne_true, if_neg Bool.false_ne_true]
/-- the frame -/
def F5 : Fr := frK 256 191 64 [50] [50].length
theorem ga_new {w : World} {B g gt gr : Nat} {S : Tb} {mac : Int} {n : Nat} (h : GaIn w B g gt gr (.slice none 0 0) S mac n) : GaA w B g gt gr (.slice none 0 0) S mac n :=
  ⟨h, fun e => e.elim (fun e => Blk.ne_ h.box h.t.box (by decide) e) (fun e => e.elim (fun e => Blk.fm_ne h.box h.t.rows (by decide) e.symm) (fun e => by cases e))⟩
end Go.Proofs.YthgcmlhmhojjhaaGreatDoor.TkA
