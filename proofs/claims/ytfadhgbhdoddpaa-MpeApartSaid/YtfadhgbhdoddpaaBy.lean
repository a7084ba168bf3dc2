/- Plain facts about strings: their bytes, parts of them. -/
import Derived.WalkKit
namespace Go.Proofs.Ytfadhgbhdoddpaa.By

theorem ext_size (s : ByteArray) {a b : Nat} (h : b ≤ s.size) : (s.extract a b).size = b - a := by
  rw [ByteArray.size_extract]; omega
theorem ext_get (s : ByteArray) {a b j : Nat} (hj : j < b - a) (hb : b ≤ s.size) : (s.extract a b).data[j]? = s.data[a + j]? := by
  have hs : s.size = s.data.size := rfl
  rw [ByteArray.data_extract, Array.getElem?_extract]
  split
  · rfl
  · omega
end Go.Proofs.Ytfadhgbhdoddpaa.By
