/- BurstTakes: which sections a gatherer takes, walked. -/
import Derived.Test.YthgcmlhmhojjhaaGreatDoorOdPkX
namespace Go.Proofs.YthgcmlhmhojjhaaGreatDoor.TkA
open Go Go.RowKit Go.Proofs.YthgcmlhmhojjhaaGreatDoor.Q Go.Proofs.YthgcmlhmhojjhaaGreatDoor.Mem Go.Proofs.YthgcmlhmhojjhaaGreatDoor.Rg Go.Proofs.YthgcmlhmhojjhaaGreatDoor.Ap Go.Proofs.YthgcmlhmhojjhaaGreatDoor.St Go.Proofs.YthgcmlhmhojjhaaGreatDoor.CrB Go.Proofs.YthgcmlhmhojjhaaGreatDoor.Ints Go.Proofs.YthgcmlhmhojjhaaGreatDoor.Tab Go.Proofs.YthgcmlhmhojjhaaGreatDoor.TmA Go.Proofs.YthgcmlhmhojjhaaGreatDoor.TbM Go.Proofs.YthgcmlhmhojjhaaGreatDoor.TbO Go.Proofs.YthgcmlhmhojjhaaGreatDoor.TbP Go.Proofs.YthgcmlhmhojjhaaGreatDoor.FrA Go.Proofs.YthgcmlhmhojjhaaGreatDoor.FrB Go.Proofs.YthgcmlhmhojjhaaGreatDoor.FrC Go.Proofs.YthgcmlhmhojjhaaGreatDoor.LaA Go.Proofs.YthgcmlhmhojjhaaGreatDoor.LaH Go.Proofs.YthgcmlhmhojjhaaGreatDoor.BuA Go.Proofs.YthgcmlhmhojjhaaGreatDoor.BuB Go.Proofs.YthgcmlhmhojjhaaGreatDoor.BuC Go.Proofs.YthgcmlhmhojjhaaGreatDoor.BuD Go.Proofs.YthgcmlhmhojjhaaGreatDoor.BuE Go.Proofs.YthgcmlhmhojjhaaGreatDoor.BuF Go.Proofs.YthgcmlhmhojjhaaGreatDoor.BuG Go.Proofs.YthgcmlhmhojjhaaGreatDoor.BuI Go.Proofs.YthgcmlhmhojjhaaGreatDoor.BuJ Go.Proofs.YthgcmlhmhojjhaaGreatDoor.BuL Go.Proofs.YthgcmlhmhojjhaaGreatDoor.BuN Go.Proofs.YthgcmlhmhojjhaaGreatDoor.BuO Go.Proofs.YthgcmlhmhojjhaaGreatDoor.BuP Go.Proofs.YthgcmlhmhojjhaaGreatDoor.BuS

set_option maxRecDepth 100000
/-- the frame -/
def F5 : Fr := frK 256 191 64 [50] [50].length
theorem ga_new {w : World} {B g gt gr : Nat} {S : Tb} {mac : Int} {n : Nat} (h : GaIn w B g gt gr (.slice none 0 0) S mac n) : GaA w B g gt gr (.slice none 0 0) S mac n :=
  ⟨h, fun e => e.elim (fun e => Blk.ne_ h.box h.t.box (by decide) e) (fun e => e.elim (fun e => Blk.fm_ne h.box h.t.rows (by decide) e.symm) (fun e => by cases e))⟩
end Go.Proofs.YthgcmlhmhojjhaaGreatDoor.TkA
