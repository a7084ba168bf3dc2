import Derived.Test.YtibjkhepedfpiaaGreatDoorSgPkB
import Derived.Handy
namespace Go.Proofs.YtibjkhepedfpiaaGreatDoor.Tab
open Go Go.RowKit Q Mem Rg St
structure Tab (b:Nat) (w:World):Prop where
 c0:w.cell? ⟨b,0,none⟩=some (.int .i64 256)
 c1:w.cell? ⟨b,1,none⟩=some (.int .i64 512)
 c2:w.cell? ⟨b,2,none⟩=some (.int .i64 768)
 c3:w.cell? ⟨b,3,none⟩=some (.int .i64 1024)
 lt:b<w.heap.size
theorem Tab.below {b B:Nat} {w w':World} (h:Tab b w) (hb:Below B w w') (hB:b<B):Tab b w':=by
 have hx: ∀i,w'.cell? ⟨b,i,none⟩=w.cell? ⟨b,i,none⟩:=fun i=>World.cell?_of_block (a:=⟨b,i,none⟩) (hb.block b hB);exact⟨by rw[hx];exact h.c0,by rw[hx];exact h.c1,by rw[hx];exact h.c2,by rw[hx];exact h.c3,Nat.lt_of_lt_of_le h.lt hb.size⟩
theorem Tab.be {b:Nat} {w w':World} (h:Tab b w) (hb:Below w.heap.size w w'):Tab b w':=h.below hb h.lt
theorem Tab.ext {b:Nat} {w:World} (h:Tab b w) (p:Ext):Tab b (ext w p):=h.be (below_ext w p)
def ix (x:Int):Int:=if x=256 then 0 else if x=512 then 1 else if x=768 then 2 else if x=1024 then 3 else -1
def isSz (x:Int):Bool:=decide (x=256∨x=512∨x=768∨x=1024)
theorem ix_sz (x:Int):decide (0≤ix x)=isSz x:=by
 unfold ix isSz;by_cases h1:x=256
 ·simp[h1]
 ·by_cases h2:x=512
  ·simp[h2]
  ·by_cases h3:x=768
   ·simp[h3]
   ·by_cases h4:x=1024<;>simp[h1,h2,h3,h4]
theorem isSz_true {x:Int} (h:isSz x=true):x=256∨x=512∨x=768∨x=1024:=by simpa [isSz]using h
set_option maxRecDepth 100000
theorem index_any (b:Nat) (x:Int) (w:World) (h:Tab b w):Calls Tryz.prog 144 #[.slice (some ⟨b,0,none⟩) 4 4,.int .i64 x] w fun e w'=>e= .returned (.int .i64 (ix x))∧w=w':=by
 obtain⟨c0,c1,c2,c3,_⟩:=h;by_cases h1:x=256
 ·subst h1
  rw[show ix 256=0 from rfl]
  go_enter Tryz.func144,Tryz.ntmps144
  go_wp2_with fail
  go_rounds 5
  go_ret;exact⟨rfl,rfl⟩
 ·have t1:(x==256)=false:=by simpa using h1
  by_cases h2:x=512
  ·subst h2
   rw[show ix 512=1 from rfl];clear h1
   go_enter Tryz.func144,Tryz.ntmps144
   go_wp2_with fail
   go_rounds 5
   go_ret;exact⟨rfl,rfl⟩
  ·have t2:(x==512)=false:=by simpa using h2
   by_cases h3:x=768
   ·subst h3
    rw[show ix 768=2 from rfl];clear h1 h2
    go_enter Tryz.func144,Tryz.ntmps144
    go_wp2_with fail
    go_rounds 5
    go_ret;exact⟨rfl,rfl⟩
   ·have t3:(x==768)=false:=by simpa using h3
    by_cases h4:x=1024
    ·subst h4
     rw[show ix 1024=3 from rfl];clear h1 h2 h3
     go_enter Tryz.func144,Tryz.ntmps144
     go_wp2_with fail
     go_rounds 5
     go_ret;exact⟨rfl,rfl⟩
    ·have t4:(x==1024)=false:=by simpa using h4
     have HI:=Lib.hid (show ix x= -1 by unfold ix;rw[if_neg h1,if_neg h2,if_neg h3,if_neg h4]);clear h1 h2 h3 h4
     go_enter Tryz.func144,Tryz.ntmps144
     go_wp2_with fail
     go_rounds 5
     go_ret;exact⟨by rw[HI.out];rfl,rfl⟩
theorem contains_any (b:Nat) (x:Int) (w:World) (h:Tab b w):Calls Tryz.prog 116 #[.slice (some ⟨b,0,none⟩) 4 4,.int .i64 x] w fun e w'=>e= .returned (.bool (isSz x))∧w=w':=by
 have k1:=index_any b x w h;have HX:=Lib.hid (ix_sz x)
 go_enter Tryz.func116,Tryz.ntmps116
 go_wp2_with fail
 (with_reducible refine(k1).mono ?_);rintro e1 W1 ⟨rfl,rfl⟩
 go_wp2_with fail
 go_ret;exact⟨by rw[←HX.out];rfl,rfl⟩
end Go.Proofs.YtibjkhepedfpiaaGreatDoor.Tab
