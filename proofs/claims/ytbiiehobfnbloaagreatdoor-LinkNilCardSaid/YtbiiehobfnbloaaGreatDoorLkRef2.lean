/- link: the document's answer, a byte turned; all harms; its Pass. -/
import Derived.Test.YtbiiehobfnbloaaGreatDoorLkRef
import Derived.RegionTactic
import Derived.BigRegion
import Derived.Laws.BytesArg
namespace Go.Proofs.YtbiiehobfnbloaaGreatDoor.LkRef2
open Go.RowKit Go.Proofs.YtbiiehobfnbloaaGreatDoor.Q Go.Proofs.YtbiiehobfnbloaaGreatDoor.Mem Go.Proofs.YtbiiehobfnbloaaGreatDoor.PkCut Go.Proofs.YtbiiehobfnbloaaGreatDoor.LkHarm Go.Proofs.YtbiiehobfnbloaaGreatDoor.LkPass Go.Proofs.YtbiiehobfnbloaaGreatDoor.LkRef

theorem cat_turn (x : ByteArray) (i : Nat) (b : Int) (hi : i < x.size) (hb : 0 ≤ b ∧ b < 256) :
    x.extract 0 i ++ strOfNums [bits .xor .u8 ((x[i]'hi).toNat : Int) b] ++ x.extract (i + 1) x.size = turnB x i b := by
  have hi' : i < x.data.size := hi
  have hxi : x[i]'hi = x.data[i] := rfl
  apply ByteArray.ext
  apply Array.toList_inj.1
  rw [xor_u8 _ _ hb]
  have hsz : x.size = x.data.toList.length := by rw [Array.length_toList]; rfl
  simp only [ByteArray.data_append, ByteArray.data_extract, Array.toList_append, Array.toList_extract, List.extract_eq_take_drop, strOfNums, turnB, Array.toList_setIfInBounds, List.map_cons, List.map_nil, Int.toNat_natCast, UInt8.ofNat_toNat, Nat.sub_zero, List.drop_zero]
  rw [List.set_eq_take_append_cons_drop, if_pos (by simpa using hi'), hxi, Array.getElem?_eq_getElem hi']
  simp
  exact List.take_of_length_le (by rw [List.length_drop, ← hsz]; exact Nat.le_refl _)

end Go.Proofs.YtbiiehobfnbloaaGreatDoor.LkRef2
