/- Strings: their bytes as a list; an index, a part, a sum, bytes laid anew that are read as a string. -/
import Derived.Test.YtfadhgbhdoddpaaRg
import Derived.Test.YtfadhgbhdoddpaaRows
import Derived.Laws.BytesArg
import Derived.Laws.BitsLemmas
import Derived.Laws.IdiomStrings
import Derived.Laws.StructEq
import Derived.Lib.Hide
namespace Go.Proofs.Ytfadhgbhdoddpaa.St
open Go Go.RowKit Go.Proofs.Ytfadhgbhdoddpaa.Q Go.Proofs.Ytfadhgbhdoddpaa.Mem Go.Proofs.Ytfadhgbhdoddpaa.Rg

/-- bytes as a string -/
def str (l : List UInt8) : ByteArray := ⟨l.toArray⟩
/-- a string's bytes -/
def bl (s : ByteArray) : List UInt8 := s.data.toList
abbrev nob : ByteArray := { data := #[] }
theorem str_size (l : List UInt8) : (str l).size = l.length := by simp [str, ByteArray.size]
theorem str_app (l m : List UInt8) : str l ++ str m = str (l ++ m) := by
  unfold str
  rw [ByteArray.mk_append_mk]
theorem str_bl (s : ByteArray) : str (bl s) = s := by cases s; rfl
theorem bl_str (l : List UInt8) : bl (str l) = l := rfl
theorem bl_len (s : ByteArray) : (bl s).length = s.size := rfl
theorem bl_inj {s t : ByteArray} (h : bl s = bl t) : s = t := by rw [← str_bl s, h, str_bl]
theorem bl_app (s t : ByteArray) : bl (s ++ t) = bl s ++ bl t := by
  have := str_app (bl s) (bl t)
  rw [str_bl, str_bl] at this
  rw [this]; rfl
theorem str_nil : str [] = nob := rfl
theorem nums_str (L : List Int) : strOfNums L = str (L.map fun n => UInt8.ofNat n.toNat) := rfl
/-- a byte of a string -/
def at' (s : ByteArray) (i : Nat) : Int := ((s.data[i]?.getD 0).toNat : Int)
theorem at_range (s : ByteArray) (i : Nat) : 0 ≤ at' s i ∧ at' s i ≤ 255 := by
  unfold at'
  have := (s.data[i]?.getD 0).toNat_lt
  omega
theorem byte_at (s : ByteArray) (i : Nat) (h : i < s.size) : ∃ b : UInt8, (bl s)[i]? = some b ∧ at' s i = (b.toNat : Int) := by
  have h' : i < s.data.size := h
  refine ⟨s.data[i], by simp [bl], ?_⟩
  unfold at'
  rw [Array.getElem?_eq_getElem h']; rfl
theorem at_of {s : ByteArray} {i : Nat} {b : UInt8} (h : (bl s)[i]? = some b) : at' s i = (b.toNat : Int) := by
  unfold at' bl at *
  rw [Array.getElem?_toList] at h
  rw [h]; rfl
theorem ext_bl (s : ByteArray) (a b : Nat) : bl (s.extract a b) = ((bl s).drop a).take (b - a) := by
  simp [bl, ByteArray.data_extract, Array.toList_extract, List.extract_eq_take_drop]
theorem ext_size (s : ByteArray) {a b : Nat} (h : b ≤ s.size) : (s.extract a b).size = b - a := by
  rw [ByteArray.size_extract]; omega
set_option maxRecDepth 100000
theorem idx_at (s : ByteArray) (i : Nat) (h : i < s.size) (V : World) : (Instr.index 9 (.string s) (.int .i64 (i : Int))).run Try.prog V = .ok (.int .u8 (at' s i)) V := by
  rw [run_index_string V _ s .i64 i Try.underlying9, dif_pos ⟨by omega, by omega⟩]
  have h' : i < s.data.size := h
  have : (s.data[i]?.getD 0) = s.data[i] := by rw [Array.getElem?_eq_getElem h']; rfl
  unfold at'
  rw [this]
  rfl
/-- a slice of bytes laid anew reads as a string -/
theorem conv_new (V : World) (l : List Int) (n g : Nat) (cs : Array Value) (hn : l.length = n) (hc : cs = (l.map (Value.int .u8)).toArray) (hg : g = V.heap.size) :
    (convert 40 9 (.slice (some ⟨g, 0, none⟩) n n)).run Try.prog (V.alloc (.cells cs 5)) = .ok (.string (strOfNums l)) (V.alloc (.cells cs 5)) := by
  have q : Blk (V.alloc (.cells cs 5)) g 5 cs := Blk.newAt _ _ _ hg
  exact run_convert_bytes_arg (P := Try.prog) _ 40 5 Try.underlying40 Try.underlying5 g 0 n n l hn (fun j hj => by
    rw [Nat.zero_add]
    refine Blk.cell q j ?_
    rw [hc, List.getElem?_toArray, List.getElem?_map, List.getElem?_eq_getElem (show j < l.length by omega), List.getD_eq_getElem?_getD, List.getElem?_eq_getElem (show j < l.length by omega)]
    rfl) _ Try.underlying9
theorem add_at (a b : ByteArray) (h : a.size + b.size ≤ 140737488355328) (U : World) : (Op.stringOp .add a b).run Try.prog U = .ok (.string (a ++ b)) U := run_string_add_sum U _ _ (by omega)
end Go.Proofs.Ytfadhgbhdoddpaa.St
