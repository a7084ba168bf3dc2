import Derived.Test.YtibjkhepedfpiaaDoorSlPaK
namespace Go.Proofs.YtibjkhepedfpiaaDoor.SlM
open Go Go.RowKit Q Mem Ap St CrB PaA PaK PaP
def manyE (L:List ByteArray):Int:=if L.length=0 then 18 else firstE L
noncomputable def manyN (L:List ByteArray):Nat:=if manyE L=0 then nP (L.map ByteArray.size)else 0
set_option maxRecDepth 100000
theorem many_any (a:Option Addr) (n c:Nat) (L:List ByteArray) (w:World) (hn:L.length=n) (hl:n≤100000) (hcap:n≤c) (hL:Seq enS 1 w a L) (hs: ∀s∈L,s.size≤1099511627776):
 Calls Tryd.prog 34 #[.slice a n c] w fun e w'=>e= .returned (.tuple #[.int .i64 (manyN L:Int),.int .i64 (manyE L)])∧Below w.heap.size w w':=by
 have kp:=pack_any 0 0 a n c L w (by decide) (by decide) (by decide) hn hl hcap hL hs;rw[show((0:Nat):Int)=0 from rfl]at kp;by_cases h0:n=0
 ·subst h0
  have HE:=Lib.hid (show manyE L=18∧manyN L=0 from by
   have:manyE L=18:=if_pos hn;exact⟨this,if_neg (by rw[this];decide)⟩)
  clear kp hL hs
  go_enter Tryd.func34,Tryd.ntmps34
  go_wp2_with fail
  go_ret2
  exact⟨by rw[HE.out.1,HE.out.2];rfl,Below.refl _ _⟩
 ·have t0:((n:Int)==0)=false:=by simp;omega
  have t1:(n==0)=false:=by simp;omega
  have HM:=Lib.hid (show manyE L=firstE L from if_neg (by omega));by_cases hE:firstE L=0
  ·simp only[if_pos hE]at kp
   have HE:=Lib.hid (show manyN L=nP (L.map ByteArray.size)from if_pos (by rw[HM.out];exact hE));have HE0:=Lib.hid hE;obtain⟨K,hK⟩: ∃K,nP (L.map ByteArray.size)=K:=⟨_,rfl⟩;rw[hK]at kp HE;clear hL hs hE hK h0
   go_enter Tryd.func34,Tryd.ntmps34
   go_wp2_with fail
   (with_reducible refine(kp).mono ?_);rintro e W1 ⟨⟨ao,cap,rfl,hq⟩,hb⟩
   clear hq
   go_wp2_with fail
   go_ret2
   exact⟨by rw[HM.out,HE0.out,HE.out];rfl,hb⟩
  ·simp only[if_neg hE]at kp
   have HE:=Lib.hid (show manyN L=0 from if_neg (by rw[HM.out];exact hE));obtain⟨F,hF⟩: ∃F,firstE L=F:=⟨_,rfl⟩;rw[hF]at kp HM;clear hL hs hE hF h0
   go_enter Tryd.func34,Tryd.ntmps34
   go_wp2_with fail
   (with_reducible refine(kp).mono ?_);rintro e W1 ⟨rfl,hb⟩
   go_wp2_with fail
   go_ret2
   exact⟨by rw[HM.out,HE.out];rfl,hb⟩
end Go.Proofs.YtibjkhepedfpiaaDoor.SlM
