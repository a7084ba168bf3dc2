import Derived.Test.YtibjkhepedfpiaaDoorSlPkB
import Derived.Handy
namespace Go.Proofs.YtibjkhepedfpiaaDoor.Tab
open Go Go.RowKit Q Mem Rg St
structure Tab (b:Nat) (w:World):Prop where
 c0:w.cell? ⟨b,0,none⟩=some (.int .i64 256)
 c1:w.cell? ⟨b,1,none⟩=some (.int .i64 512)
 c2:w.cell? ⟨b,2,none⟩=some (.int .i64 768)
 c3:w.cell? ⟨b,3,none⟩=some (.int .i64 1024)
 lt:b<w.heap.size
theorem Tab.below {b B:Nat} {w w':World} (h:Tab b w) (hb:Below B w w') (hB:b<B):Tab b w':=by
 have hx: ∀i,w'.cell? ⟨b,i,none⟩=w.cell? ⟨b,i,none⟩:=fun i=>World.cell?_of_block (a:=⟨b,i,none⟩) (hb.block b hB);exact⟨by rw[hx];exact h.c0,by rw[hx];exact h.c1,by rw[hx];exact h.c2,by rw[hx];exact h.c3,Nat.lt_of_lt_of_le h.lt hb.size⟩
theorem Tab.be {b:Nat} {w w':World} (h:Tab b w) (hb:Below w.heap.size w w'):Tab b w':=h.below hb h.lt
theorem Tab.ext {b:Nat} {w:World} (h:Tab b w) (p:Ext):Tab b (ext w p):=h.be (below_ext w p)
def ix (x:Int):Int:=if x=256 then 0 else if x=512 then 1 else if x=768 then 2 else if x=1024 then 3 else -1
set_option maxRecDepth 100000
end Go.Proofs.YtibjkhepedfpiaaDoor.Tab
