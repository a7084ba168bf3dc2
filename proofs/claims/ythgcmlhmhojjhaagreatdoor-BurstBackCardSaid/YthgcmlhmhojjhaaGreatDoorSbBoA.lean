/- BurstOrder, walked. -/
import Derived.Test.YthgcmlhmhojjhaaGreatDoorSbBoQ
import Derived.Test.YthgcmlhmhojjhaaGreatDoorSbBoM
import Derived.Test.YthgcmlhmhojjhaaGreatDoorSbTkA
namespace Go.Proofs.YthgcmlhmhojjhaaGreatDoor.BoA
open Go Go.RowKit Go.Proofs.YthgcmlhmhojjhaaGreatDoor.Q Go.Proofs.YthgcmlhmhojjhaaGreatDoor.Mem Go.Proofs.YthgcmlhmhojjhaaGreatDoor.Rg Go.Proofs.YthgcmlhmhojjhaaGreatDoor.Ap Go.Proofs.YthgcmlhmhojjhaaGreatDoor.St Go.Proofs.YthgcmlhmhojjhaaGreatDoor.CrB Go.Proofs.YthgcmlhmhojjhaaGreatDoor.Ints Go.Proofs.YthgcmlhmhojjhaaGreatDoor.Tab Go.Proofs.YthgcmlhmhojjhaaGreatDoor.TbM Go.Proofs.YthgcmlhmhojjhaaGreatDoor.TbO Go.Proofs.YthgcmlhmhojjhaaGreatDoor.TbP Go.Proofs.YthgcmlhmhojjhaaGreatDoor.TbT Go.Proofs.YthgcmlhmhojjhaaGreatDoor.TbU Go.Proofs.YthgcmlhmhojjhaaGreatDoor.TbV Go.Proofs.YthgcmlhmhojjhaaGreatDoor.TbW Go.Proofs.YthgcmlhmhojjhaaGreatDoor.FrA Go.Proofs.YthgcmlhmhojjhaaGreatDoor.FrB Go.Proofs.YthgcmlhmhojjhaaGreatDoor.FrC Go.Proofs.YthgcmlhmhojjhaaGreatDoor.LaH Go.Proofs.YthgcmlhmhojjhaaGreatDoor.LaQ Go.Proofs.YthgcmlhmhojjhaaGreatDoor.BuC Go.Proofs.YthgcmlhmhojjhaaGreatDoor.BuE Go.Proofs.YthgcmlhmhojjhaaGreatDoor.BuG Go.Proofs.YthgcmlhmhojjhaaGreatDoor.BuI Go.Proofs.YthgcmlhmhojjhaaGreatDoor.BuJ Go.Proofs.YthgcmlhmhojjhaaGreatDoor.BuL Go.Proofs.YthgcmlhmhojjhaaGreatDoor.BuN Go.Proofs.YthgcmlhmhojjhaaGreatDoor.BuP Go.Proofs.YthgcmlhmhojjhaaGreatDoor.BuS Go.Proofs.YthgcmlhmhojjhaaGreatDoor.BuT Go.Proofs.YthgcmlhmhojjhaaGreatDoor.BoP Go.Proofs.YthgcmlhmhojjhaaGreatDoor.BoQ Go.Proofs.YthgcmlhmhojjhaaGreatDoor.BoM Go.Proofs.YthgcmlhmhojjhaaGreatDoor.GtA

set_option maxRecDepth 100000
theorem frs_of {C K : Nat} (hC : C ≤ 191) (hK : K ≤ 64) (l : List Int) (hl : l.length ≤ 20) (h0 : (frK 256 C K l l.length).L.length ≠ 0) : FrS (frK 256 C K l l.length) :=
  ⟨frK_mk hC hK l hl, frK_ok (by decide) (by decide) hC l _, lay_frK (by decide) (by decide) hC l _, h0⟩
end Go.Proofs.YthgcmlhmhojjhaaGreatDoor.BoA
