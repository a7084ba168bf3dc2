/- A slice of ints: what lies in it. -/
import Derived.Test.YtfadhgbhdoddpaaSt
import Derived.Test.YtfadhgbhdoddpaaRg
import Derived.Test.YtfadhgbhdoddpaaBy
import Derived.Outline
namespace Go.Proofs.Ytfadhgbhdoddpaa.Ints
open Go.RowKit Go.Proofs.Ytfadhgbhdoddpaa.Mem Go.Proofs.Ytfadhgbhdoddpaa.St
def Ints (w : World) (a : Option Addr) (zs : List Int) : Prop := ∀ i x, zs[i]? = some x → ∃ b o, a = some ⟨b, o, none⟩ ∧ b < w.heap.size ∧ w.cell? ⟨b, o + i, none⟩ = some (.int .i64 x)
theorem Ints.below {w w' : World} {a : Option Addr} {zs : List Int} {B : Nat} (h : Ints w a zs) (hB : w.heap.size ≤ B) (hb : Below B w w') : Ints w' a zs := fun i x hi => by
  obtain ⟨b, o, h1, h2, h3⟩ := h i x hi
  exact ⟨b, o, h1, Nat.lt_of_lt_of_le h2 hb.size, (World.cell?_of_block (a := ⟨b, o + i, none⟩) (hb.block b (by omega))).trans h3⟩
theorem ints_blk {w : World} {g : Nat} {t : TypeId} {zs : List Int} {cs : Array Value} (h : Blk w g t cs) (hc : cs = (zs.map (Value.int .i64)).toArray) : Ints w (some ⟨g, 0, none⟩) zs := fun i x hi =>
  ⟨g, 0, rfl, h.lt, by rw [Nat.zero_add]; exact Blk.cell h i (by subst hc; simp [hi])⟩
def in1 (most n : Int) : Bool := decide (0 ≤ n ∧ n ≤ most)
def inB (most : Int) (l : List Int) : Bool := l.all (in1 most)
theorem son_append (a b : List Int) : strOfNums a ++ strOfNums b = strOfNums (a ++ b) := by rw [nums_str, nums_str, nums_str, str_app, List.map_append]
theorem son_size (l : List Int) : (strOfNums l).size = l.length := by rw [nums_str, str_size, List.length_map]
end Go.Proofs.Ytfadhgbhdoddpaa.Ints
