import Derived.Test.YtibjkhepedfpiaaDoorSlOpS
import Derived.Test.YtibjkhepedfpiaaDoorSlSlC
namespace Go.Proofs.YtibjkhepedfpiaaDoor.SlOpn
open Go Go.RowKit Q Mem Ap Opn OpS SlA SlB SlC
open Go.ChangeShapes Go.WideShapes Go.ChangeAt Go.Joins
set_option maxRecDepth 100000
section
variable {H0:Type} {enc:TypeId×Value→H0} {w:World} {base:Nat} {spare:Nat→Bool} {held:Bool}
theorem u8_of {n:Int} (h:(Lit.int .u8 n).wf=true):0≤n∧n<256:=by
 simp only[Lit.wf,Bool.and_eq_true,decide_eq_true_eq]at h;have h1:(0:Int)≤n:=h.1;have h2:n≤255:=h.2;omega
theorem pc_of {n:Nat} {cs:List Value} (hl:cs.length=5) {x:DataW H0×List MemPlace} (h:DataW.trod enc Tryd.prog w base spare held n 50 cs=some x): ∃y:Pc,cs=enPc y∧PcOk y:=by
 obtain⟨ys,n',hn',hy,hlen,hyl,hf⟩:=DataW.trod_struct Tryd.underlying50 h
 match cs,hl,ys,hyl with
 |[c0,c1,c2,c3,c4],_,[y0,y1,y2,y3,y4],_=>
  have h0:=hf 0 _ rfl;have h1:=hf 1 _ rfl;have h2:=hf 2 _ rfl;have h3:=hf 3 _ rfl;have h4:=hf 4 _ rfl;rw[show Tryd.prog.cellsOf _=1 by kernel_rfl]at h0 h1 h2 h3 h4;obtain⟨a0,e0,_,_⟩:=DataW.trod_int Tryd.underlying3 h0;obtain⟨a1,e1,_,w1⟩:=DataW.trod_int Tryd.underlying5 h1;obtain⟨a2,e2,_,w2⟩:=DataW.trod_int Tryd.underlying5 h2;obtain⟨a3,e3,_⟩:=DataW.trod_bool Tryd.underlying4 h3;obtain⟨a4,e4,_,_⟩:=DataW.trod_string Tryd.underlying9 h4;simp at e0 e1 e2 e3 e4;have u1:=u8_of w1;have u2:=u8_of w2;obtain⟨m1,rfl⟩:=Int.eq_ofNat_of_zero_le u1.1;obtain⟨m2,rfl⟩:=Int.eq_ofNat_of_zero_le u2.1;exact⟨⟨a0,m1,m2,a3,a4⟩,by simp[enPc, *],by constructor<;>dsimp only<;>omega⟩
theorem pcs_of {n:Nat} {v:Value} {x:DataW H0×List MemPlace} (h:DataW.trod enc Tryd.prog w base spare held n 43 [v]=some x):
 ∃(a:Option Addr) (cap:Nat) (L:List Pc),v= .slice a L.length cap∧L.length≤9223372036854775807∧Seq enPc 5 w a L∧ ∀p∈L,PcOk p:=by
 obtain⟨a,cap,L,rfl,hl,hs,hq,_⟩:=seq_of (Q:=PcOk) (en:=enPc) (sz:=5) Tryd.underlying43 (by kernel_rfl) (by decide) (fun n cs x hc hx=>pc_of hc hx) h;exact⟨a,cap,L,rfl,hl,hs,hq⟩
def RnIn (w:World) (r:Rn):Prop:=Seq enPc 5 w r.la r.l∧r.l.length≤9223372036854775807∧ ∀p∈r.l,PcOk p
theorem rn_of {n:Nat} {cs:List Value} (hl:cs.length=3) {x:DataW H0×List MemPlace} (h:DataW.trod enc Tryd.prog w base spare held n 45 cs=some x): ∃y:Rn,cs=enRn y∧RnIn w y:=by
 obtain⟨ys,n',hn',hy,hlen,hyl,hf⟩:=DataW.trod_struct Tryd.underlying45 h
 match cs,hl,ys,hyl with
 |[c0,c1,c2],_,[y0,y1,y2],_=>
  have h0:=hf 0 _ rfl;have h1:=hf 1 _ rfl;have h2:=hf 2 _ rfl;rw[show Tryd.prog.cellsOf _=1 by kernel_rfl]at h0 h1 h2;obtain⟨a0,e0,_,_⟩:=DataW.trod_int Tryd.underlying3 h0;obtain⟨a1,e1,_,w1⟩:=DataW.trod_int Tryd.underlying3 h1;simp at e0 e1;obtain⟨a,cap,L,rfl,hL,hs,hq⟩:=pcs_of (v:=c2) h2;exact⟨⟨a0,a1,a,cap,L⟩,by simp[enRn, *],hs,hL,hq⟩
theorem rns_of {n:Nat} {v:Value} {x:DataW H0×List MemPlace} (h:DataW.trod enc Tryd.prog w base spare held n 22 [v]=some x):
 ∃(a:Option Addr) (cap:Nat) (L:List Rn),v= .slice a L.length cap∧L.length≤9223372036854775807∧Seq enRn 3 w a L∧ ∀r∈L,RnIn w r:=by
 obtain⟨a,cap,L,rfl,hl,hs,hq,_⟩:=seq_of (Q:=RnIn w) (en:=enRn) (sz:=3) Tryd.underlying22 (by kernel_rfl) (by decide) (fun n cs x hc hx=>rn_of hc hx) h;exact⟨a,cap,L,rfl,hl,hs,hq⟩
end
end Go.Proofs.YtibjkhepedfpiaaDoor.SlOpn
