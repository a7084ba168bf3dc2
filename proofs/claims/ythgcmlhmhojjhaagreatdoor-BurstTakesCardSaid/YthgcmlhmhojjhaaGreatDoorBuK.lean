/- The document's answer for a frame: clarionref19.Make. -/
import Derived.Test.YthgcmlhmhojjhaaGreatDoorBuE
import Derived.Test.YthgcmlhmhojjhaaGreatDoorPkN
import Derived.Test.YthgcmlhmhojjhaaGreatDoorPkF
import Derived.Deep.RegionHeld3
import Derived.Deep.AppendLies
namespace Go.Proofs.YthgcmlhmhojjhaaGreatDoor.BuK
open Go Go.RowKit Go.Proofs.YthgcmlhmhojjhaaGreatDoor.Q Go.Proofs.YthgcmlhmhojjhaaGreatDoor.Mem Go.Proofs.YthgcmlhmhojjhaaGreatDoor.Rg Go.Proofs.YthgcmlhmhojjhaaGreatDoor.Ap Go.Proofs.YthgcmlhmhojjhaaGreatDoor.St Go.Proofs.YthgcmlhmhojjhaaGreatDoor.CrB Go.Proofs.YthgcmlhmhojjhaaGreatDoor.Ints Go.Proofs.YthgcmlhmhojjhaaGreatDoor.SeA Go.Proofs.YthgcmlhmhojjhaaGreatDoor.SeC Go.Proofs.YthgcmlhmhojjhaaGreatDoor.MpS Go.Proofs.YthgcmlhmhojjhaaGreatDoor.FcS Go.Proofs.YthgcmlhmhojjhaaGreatDoor.TmA Go.Proofs.YthgcmlhmhojjhaaGreatDoor.DgC Go.Proofs.YthgcmlhmhojjhaaGreatDoor.MpA Go.Proofs.YthgcmlhmhojjhaaGreatDoor.FcA Go.Proofs.YthgcmlhmhojjhaaGreatDoor.FrA Go.Proofs.YthgcmlhmhojjhaaGreatDoor.FrB Go.Proofs.YthgcmlhmhojjhaaGreatDoor.BuC Go.Proofs.YthgcmlhmhojjhaaGreatDoor.BuD Go.Proofs.YthgcmlhmhojjhaaGreatDoor.BuE

def txtL (L : List (Nat × ByteArray)) : List ByteArray := L.map (·.2)
def atL (L : List (Nat × ByteArray)) : List Int := L.map fun x => (x.1 : Int)
/-- what the document's Make says -/
structure RMk (L : List (Nat × ByteArray)) (PL : List ByteArray) (pad mac : Int) (w : World) (e : Ending) (w' : World) : Prop where
  be : Below w.heap.size w w'
  ok : ∃ v', e = .returned v' ∧ w'.ownsRow w.heap.size 9 1 v' (L.length + PL.length) (flat enS (gL L mac (decide (PL.length = 0)) ++ cL pad PL))
theorem mp_enc {p : Mp} (h : p.chk = 0) : bytesS p.sec = p.enc := by unfold Mp.enc; rw [if_pos h]
theorem fp_enc {p : Fp} (h : p.chk = 0) : bytesS p.sec = p.enc := by unfold Fp.enc; rw [if_pos h]
theorem infoStr : (Tryz.prog.info? 9).map (fun i => (i.zero, i.size, i.bytes)) = some (some (.string ByteArray.empty), 1, 16) := by kernel_rfl
set_option maxRecDepth 100000
end Go.Proofs.YthgcmlhmhojjhaaGreatDoor.BuK
