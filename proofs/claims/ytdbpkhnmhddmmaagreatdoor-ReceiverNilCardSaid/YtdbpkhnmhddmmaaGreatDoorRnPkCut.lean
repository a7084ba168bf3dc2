import Derived.RangeFuncBox
import Derived.RangeFuncLeaves
import Derived.Shelf.Abstract
import Derived.OwnWalkIn
import Derived.TacticsInMore
import Derived.LoopNIn
import Derived.LoopIn
import Derived.Maps.AppendAt
import Derived.Laws.IdiomStrings
import Derived.Lib.Hide
import Derived.Test.YtdbpkhnmhddmmaaGreatDoorRows
import Derived.Test.YtdbpkhnmhddmmaaGreatDoorRnPkA
namespace Go.Proofs.YtdbpkhnmhddmmaaGreatDoor.PkCut
open Go.RowKit Go.Shelf Q Mem
attribute [local go_sem] Oper.semAt_some
structure Mid (lo hi:Nat) (W W':World):Prop where
 size:W.heap.size≤W'.heap.size
 block: ∀k,lo≤k→k<hi→k<W.heap.size→W'.heap[k]? =W.heap[k]?
theorem Mid.trans {lo hi:Nat} {A B C:World} (h:Mid lo hi A B) (k:Mid lo hi B C):Mid lo hi A C:=
 ⟨Nat.le_trans h.size k.size,fun i h1 h2 h3=>(k.block i h1 h2 (Nat.lt_of_lt_of_le h3 h.size)).trans (h.block i h1 h2 h3)⟩
theorem Mid.refl (lo hi:Nat) (W:World):Mid lo hi W W:=⟨Nat.le_refl _,fun _ _ _ _=>rfl⟩
theorem Mid.cell {lo hi:Nat} {W W':World} (h:Mid lo hi W W') {b o:Nat} {v:Value} (h1:lo≤b) (h2:b<hi) (hc:W.cell? ⟨b,o,none⟩=some v):W'.cell? ⟨b,o,none⟩=some v:=
 (World.cell?_of_block (w:=W) (h.block b h1 h2 (World.block_lt_of_cell? W _ hc))).trans hc
def pk (s:ByteArray) (i:Nat):ByteArray:=s.extract (188*i) (188*i+188)
def pks (s:ByteArray) (n:Nat):List ByteArray:=(List.range n).map (pk s)
theorem wpIn_gen {F:Fence} {n:Nat} {P:Program} {c:Code} {Q:Exit→Act→World→Prop} {a:Act} {w:World} (G:World→Prop) (h0:G w) (h: ∀W,G W→c.wpIn F n P Q a W):c.wpIn F n P Q a w:=h w h0
structure St (w W:World) (s:ByteArray) (L cap:Nat):Prop where
 size:W.heap.size=w.heap.size+4
 be:Below w.heap.size w W
 bo:Boxed W w.heap.size 26 (.slice none 0 0)
 bytes: ∀j,j<L→W.cell? ⟨w.heap.size+1,j,none⟩=some (.int .u8 ((s.data[j]?.getD 0).toNat:Int))
 c1:W.cell? ⟨w.heap.size+1+1,0,none⟩=some (.slice (some ⟨w.heap.size+1,0,none⟩) L cap)
 c2:W.cell? ⟨w.heap.size+1+1+1,0,none⟩=some (.int .i64 188)
end Go.Proofs.YtdbpkhnmhddmmaaGreatDoor.PkCut
