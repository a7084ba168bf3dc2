import Derived.Test.YtdbpkhnmhddmmaaGreatDoorRnApG
import Derived.Test.YtdbpkhnmhddmmaaGreatDoorRnPkB
import Derived.ArgAppend
namespace Go.Proofs.YtdbpkhnmhddmmaaGreatDoor.ApC
open Go Go.RowKit Mem Q Rg Ap ApG St BiW CrB
def Cells (w:World) (B:Nat) (v:Value) (n:Nat) (xs:List Value):Prop:=
 ∃g cap,v= .slice (some ⟨g,0,none⟩) n cap∧B≤g∧g<w.heap.size∧n≤cap∧xs.length=n∧(∀j,j<cap→(w.cell? ⟨g,j,none⟩).isSome=true∧w.frozen? ⟨g,j,none⟩=false)∧ ∀j u,xs[j]? =some u→w.cell? ⟨g,j,none⟩=some u
theorem Cells.below {w w':World} {B n:Nat} {v:Value} {xs:List Value} (h:Cells w B v n xs) (hb:Below w.heap.size w w'):Cells w' B v n xs:=by
 obtain⟨g,cap,e,h1,h2,h3,h4,h5,h6⟩:=h;refine⟨g,cap,e,h1,Nat.lt_of_lt_of_le h2 hb.size,h3,h4,fun j hj=>?_,fun j u hu=>?_⟩
 ·rw[hb.cell (p:=⟨g,j,none⟩) h2,World.frozen?_of_block (w:=w) (hb.block g h2)]
  exact h5 j hj
 ·rw[hb.cell (p:=⟨g,j,none⟩) h2];exact h6 j u hu
section
variable {P:Program} {ops:Array Oper} {rest:List Oper} {o:Oper} {a:Act} {w:World} {Q:Exit→Act→World→Prop}
end
theorem cells_conv (s:ByteArray) (w:World) (e:TypeId) (cap:Nat) (hcap:s.size≤cap):Cells (w.drew.alloc (.cells (bytesRow s cap) e ((bytesRow s cap).size,(bytesRow s cap).size+1))) w.heap.size (.slice (some ⟨w.heap.size,0,none⟩) s.size cap) s.size (u8s (bl s)):=by
 have hsz:(bytesRow s cap).size=cap:=by
  simp only[bytesRow,Array.size_append,Array.size_map,Array.size_replicate];show s.size+(cap-s.size)=cap;omega
 have hg:(w.drew.alloc (.cells (bytesRow s cap) e ((bytesRow s cap).size,(bytesRow s cap).size+1))).heap[w.heap.size]? =some (.cells (bytesRow s cap) e ((bytesRow s cap).size,(bytesRow s cap).size+1)):=heap_alloc_new w.drew _;refine⟨w.heap.size,cap,rfl,Nat.le_refl _,by simp,hcap,by simp[u8s,bl_len],fun j hj=>⟨?_,?_⟩,fun j u hu=>?_⟩
 ·rw[cell_of_row _ _ j _ _ _ hg,Array.getElem?_eq_getElem (by omega)];rfl
 ·unfold World.frozen?
  simp only[hg];rw[Bool.and_eq_false_iff];left;rw[decide_eq_false_iff_not];omega
 ·have hjl:=(List.getElem?_eq_some_iff.1 hu).1
  simp[u8s]at hjl;have hjs:j<s.data.size:=by simpa [bl]using hjl
  rw[cell_of_row _ _ j _ _ _ hg,bytesRow_at s cap j hjs,←hu];simp only[u8s,bl,List.getElem?_map,Array.getElem?_toList,Array.getElem?_eq_getElem hjs,Option.map_some,u8v]
end Go.Proofs.YtdbpkhnmhddmmaaGreatDoor.ApC
