import Derived.Laws.FloatArith
import Derived.Laws.ComplexArith
import Derived.Laws.Cover3
import Derived.WalkLawsBesides
import Derived.Test.YtibjkhepedfpiaaDoorSlPkS
namespace Go.Proofs.YtibjkhepedfpiaaDoor.DgP
open Go St BiH
def dh (s:ByteArray):Nat→Nat
 |0=>0
 |i+1=>dh s i+if i%2=0 then at0 s i else 0
def dl (s:ByteArray):Nat→Nat
 |0=>0
 |i+1=>dl s i+if i%2=0 then 0 else at0 s i
def r15 (n:Nat):Nat:=if n=0 then 0 else(n-1)%65535+1
theorem r15_le (n:Nat):r15 n≤65535:=by unfold r15;split<;>omega
theorem r15_add (n x:Nat) (hx:x≤65535):r15 (n+x)=if 65535<r15 n+x then r15 n+x-65535 else r15 n+x:=by
 unfold r15;by_cases h:n=0
 ·subst h
  by_cases h2:x=0
  ·subst h2;simp
  ·rw[if_neg (by omega),if_pos rfl,if_neg (by omega)];omega
 ·rw[if_neg (by omega),if_neg h]
  split<;>omega
def dsum (s:ByteArray):Nat:=65535-r15 (256*dh s s.size+dl s s.size)
theorem dsum_le (s:ByteArray):dsum s≤65535:=by unfold dsum;omega
theorem d_even (s:ByteArray) (k:Nat):256*dh s (2*k+1)+dl s (2*k+1)=(256*dh s (2*k)+dl s (2*k))+256*at0 s (2*k):=by
 rw[dh,dl,if_pos (by omega),if_pos (by omega)];omega
theorem d_odd (s:ByteArray) (k:Nat):256*dh s (2*k+2)+dl s (2*k+2)=(256*dh s (2*k)+dl s (2*k))+(256*at0 s (2*k)+at0 s (2*k+1)):=by
 rw[show 2*k+2=(2*k+1)+1 by omega,dh,dl,if_neg (by omega),if_neg (by omega),dh,dl,if_pos (by omega),if_pos (by omega)];omega
end Go.Proofs.YtibjkhepedfpiaaDoor.DgP
namespace Go.Proofs.YtibjkhepedfpiaaDoor.Fl
open Go Ieee
def fl (n:Nat):Nat:=Format.nearest double false n 0
theorem cut_exact (way:Toward) (neg:Bool) (n d:Nat) (h:n=0∨d≤(n*2^d).log2+2):Toward.cut way neg (n*2^d) d=n:=by
 have key: ∀g,0<g→(n*2^d)/g=n→(n*2^d)%g=0→1<<<min d ((n*2^d).log2+2)=g→Toward.cut way neg (n*2^d) d=n:=by
  intro g hg h1 h2 h3;unfold Toward.cut;dsimp only;rw[h3,h1,h2]
  cases way<;>simp
  omega
 rcases h with rfl|h
 ·refine key (1<<<min d ((0*2^d).log2+2)) ?_ (by simp) (by simp) rfl
  rw[Nat.shiftLeft_eq,Nat.one_mul];exact Nat.pow_pos (by decide)
 ·refine key (2^d) (Nat.pow_pos (by decide)) (Nat.mul_div_cancel _ (Nat.pow_pos (by decide))) (Nat.mul_mod_left _ _) ?_
  rw[Nat.min_eq_left h,Nat.shiftLeft_eq,Nat.one_mul]
theorem log_mul (n k:Nat) (h:n≠0):(n*2^k).log2=n.log2+k:=by
 have h1:n*2^k≠0:=Nat.mul_ne_zero h (Nat.ne_of_gt (Nat.pow_pos (by decide)));rw[Nat.log2_eq_iff h1];have h2:=Nat.log2_self_le h;have h3:= @Nat.lt_log2_self n;refine⟨?_,?_⟩
 ·rw[Nat.pow_add];exact Nat.mul_le_mul_right _ h2
 ·rw[show n.log2+k+1=(n.log2+1)+k by omega,Nat.pow_add]
  exact Nat.mul_lt_mul_of_pos_right h3 (Nat.pow_pos (by decide))
theorem log_lt {n:Nat} (h:n<9007199254740992):n.log2≤52:=by
 by_cases h0:n=0
 ·subst h0;decide
 ·have:n.log2<53:=(Nat.log2_lt h0).2 (by omega)
  omega
theorem sig_bounds {n:Nat} (h0:n≠0) (h:n<9007199254740992):4503599627370496≤n*2^(52-n.log2)∧n*2^(52-n.log2)<9007199254740992:=by
 have hl:=log_lt h;have h2:=Nat.log2_self_le h0;have h3:= @Nat.lt_log2_self n;have e1:2^n.log2*2^(52-n.log2)=4503599627370496:=by rw[←Nat.pow_add,show n.log2+(52-n.log2)=52 by omega]
 have e2:2^(n.log2+1)*2^(52-n.log2)=9007199254740992:=by rw[←Nat.pow_add,show n.log2+1+(52-n.log2)=53 by omega]
 refine⟨?_,?_⟩
 ·rw[←e1];exact Nat.mul_le_mul_right _ h2
 ·rw[←e2];exact Nat.mul_lt_mul_of_pos_right h3 (Nat.pow_pos (by decide))
theorem least:Format.leastPlace double= -1074:=by decide
theorem binade:Format.binade double=4503599627370496:=by decide
theorem inf:Format.infRung double=9218868437227405312:=by decide
def W (n:Nat):Nat:=(n.log2+1022)*4503599627370496+n*2^(52-n.log2)
theorem nearest_W {n:Nat} (k:Nat) (h0:n≠0) (h:n<9007199254740992):Format.nearest double false (n*2^k) (-(k:Int))=W n:=by
 have hl:=log_lt h;obtain⟨m1,m2⟩:=sig_bounds h0 h;have hne:n*2^k≠0:=Nat.mul_ne_zero h0 (Nat.ne_of_gt (Nat.pow_pos (by decide)))
 have hkept:Toward.even.cut false ((n*2^k)<<<(52-n.log2-k)) (n.log2+k-52)=n*2^(52-n.log2):=by
  rw[Nat.shiftLeft_eq];by_cases hk:n.log2+k≤52
  ·rw[show n.log2+k-52=0 by omega,Nat.mul_assoc,←Nat.pow_add,show k+(52-n.log2-k)=52-n.log2 by omega]
   have:=cut_exact .even false (n*2^(52-n.log2)) 0 (Or.inr (by omega));simpa using this
  ·rw[show 52-n.log2-k=0 by omega,Nat.pow_zero,Nat.mul_one]
   have e:n*2^k=n*2^(52-n.log2)*2^(n.log2+k-52):=by rw[Nat.mul_assoc,←Nat.pow_add,show 52-n.log2+(n.log2+k-52)=k by omega]
   rw[e];refine cut_exact .even false _ _ (Or.inr ?_);rw[←e,log_mul n k h0];omega
 unfold Format.nearest;rw[if_neg hne,log_mul n k h0,least,binade,inf];dsimp only
 have e1:max (-(k:Int)+((n.log2+k:Nat):Int)-(double.fractionBits:Int)) (-1074)=(n.log2:Int)-52:=by
  rw[show double.fractionBits=52 from rfl];omega
 rw[e1,show((-(k:Int))-((n.log2:Int)-52)).toNat=52-n.log2-k by omega,show(((n.log2:Int)-52)-(-(k:Int))).toNat=n.log2+k-52 by omega,hkept,show(((n.log2:Int)-52)-(-1074)).toNat=n.log2+1022 by omega];unfold Format.word;rw[if_neg (by decide),Nat.min_eq_left]
 ·rfl
 ·omega
theorem fl_W {n:Nat} (h0:n≠0) (h:n<9007199254740992):fl n=W n:=by
 have:=nearest_W 0 h0 h;simpa [fl]using this
theorem fl_zero:fl 0=0:=by decide
theorem near (n k:Nat) (h:n<9007199254740992):Format.nearest double false (n*2^k) (-(k:Int))=fl n:=by
 by_cases h0:n=0
 ·subst h0
  rw[fl_zero];unfold Format.nearest;simp[Format.word]
 ·rw[nearest_W k h0 h,fl_W h0 h]
section
variable {P:Program} (w:World)
end
end Go.Proofs.YtibjkhepedfpiaaDoor.Fl
namespace Go.Proofs.YtibjkhepedfpiaaDoor.DgA
open Go Go.RowKit Q Mem Rg St BiH DgP Fl Scp
set_option maxRecDepth 100000
def tm (a:Act) (k:Nat):Value:=a.tmps.getD k undef
def num (v:Value):Nat:=match v with| .int _ i=>i.toNat|_=>0
def frA (g o c:Nat) (s:ByteArray) (v4 v5 v7:Value) (u:Nat→Value):Act:={tmps:= #[.slice (some ⟨g,o,none⟩) 1 c,u 1,.int .i64 0,.string s,v4,v5,u 6,v7,u 8,u 9,u 10,u 11,u 12,u 13,u 14,u 15,u 16,u 17,u 18,u 19,u 20,u 21,u 22,u 23,u 24,u 25,u 26,u 27,u 28,u 29,u 30,u 31,u 32,u 33,u 34,u 35,u 36,u 37,u 38,u 39,u 40,u 41,u 42,u 43,u 44,u 45,u 46,u 47],defers:=[]}
def J0 (g o c:Nat) (s:ByteArray) (w:World) (a:Act) (W:World):Prop:= ∃(i:Nat) (u:Nat→Value),a=frA g o c s (.complex .f64 (fl (dh s i)) (fl (dl s i))) (.int .i64 i) (u 7) u∧i≤s.size∧w=W
theorem j0_intro {g o c:Nat} {s:ByteArray} {w W:World} {a:Act} {i:Nat} (h:a=frA g o c s (.complex .f64 (fl (dh s i)) (fl (dl s i))) (.int .i64 i) (tm a 7) (tm a)) (hi:i≤s.size) (hw:w=W):J0 g o c s w a W:=⟨i,tm a,h,hi,hw⟩
end Go.Proofs.YtibjkhepedfpiaaDoor.DgA
namespace Go.Proofs.YtibjkhepedfpiaaDoor.DgB
open Go Go.RowKit Q Mem Rg Ap St BiH SeI SeEq DgP DgA
structure Hd where
 ver:Int
 header:Int
 length:Int
 proto:Int
def Hd.vals (h:Hd):Array Value:= #[.int .i64 h.ver,.int .i64 h.header,.int .i64 h.length,.int .i64 h.proto]
def zeroH:Hd:=⟨0,0,0,0⟩
def hd4 (s:ByteArray):Hd:=⟨4,4*((at0 s 0:Int)%16),256*(at0 s 2:Int)+at0 s 3,at0 s 9⟩
def hd6 (s:ByteArray):Hd:=⟨6,40,40+(256*(at0 s 4:Int)+at0 s 5),at0 s 6⟩
def hdE (h:Hd) (least:Int):Int:=if h.header<least∨h.length<h.header then 12 else if 4080<h.length then 15 else 0
def pkE (s:ByteArray):Int:=
 if s.size=0 then 10 else if at0 s 0/16=4 then(if s.size<20 then 10 else hdE (hd4 s) 20)else if at0 s 0/16=6 then(if s.size<40 then 10 else hdE (hd6 s) 40)else 14
def pkH (s:ByteArray):Hd:=if pkE s=0 then(if at0 s 0/16=4 then hd4 s else hd6 s)else zeroH
set_option maxRecDepth 100000
end Go.Proofs.YtibjkhepedfpiaaDoor.DgB
namespace Go.Proofs.YtibjkhepedfpiaaDoor.DgC
open Go Go.RowKit Q Mem Rg Ap St BiH SeI SeEq DgP DgA DgB
def dgE (s:ByteArray):Int:=
 if pkE s≠0 then pkE s else if(s.size:Int)<(pkH s).length then 10 else if(pkH s).length<s.size then 11 else if(pkH s).ver=4∧dsum (s.extract 0 (pkH s).header.toNat)≠0 then 13 else 0
theorem pk_ok {s:ByteArray} (h:pkE s=0):((pkH s).ver=4∨(pkH s).ver=6)∧20≤(pkH s).header∧(pkH s).header≤(pkH s).length∧(pkH s).length≤4080:=by
 unfold pkH;rw[if_pos h];unfold pkE at h;by_cases h0:s.size=0
 ·rw[if_pos h0]at h;omega
 ·rw[if_neg h0]at h
  by_cases h4:at0 s 0/16=4
  ·rw[if_pos h4]at h ⊢
   split at h
   ·omega
   ·unfold hdE at h
    split at h
    ·omega
    ·split at h
     ·omega
     ·exact⟨Or.inl rfl,by omega,by omega,by omega⟩
  ·rw[if_neg h4]at h ⊢
   split at h
   ·split at h
    ·omega
    ·unfold hdE at h
     split at h
     ·omega
     ·split at h
      ·omega
      ·exact⟨Or.inr rfl,by omega,by omega,by omega⟩
   ·omega
set_option maxRecDepth 100000
end Go.Proofs.YtibjkhepedfpiaaDoor.DgC
namespace Go.Proofs.YtibjkhepedfpiaaDoor.DgD
open Go Go.RowKit Q Mem Rg Ap St BiH SeI SeEq DgP DgB DgC
set_option maxRecDepth 100000
theorem rsum_any (s:ByteArray) (w:World) (hs:s.size≤1099511627776):Calls Tryd.prog 43 #[.string s] w fun e w'=>e= .returned (.int .i64 (dsum s:Int))∧w=w':=by
 obtain⟨R,hR⟩: ∃R:Ending→World→Prop,R=(fun e w'=>e= .returned (.int .i64 (dsum s:Int))∧w=w'):=⟨_,rfl⟩;rw[←hR];have HRR:=Lib.hid hR;clear hR
 go_enter Tryd.func43,Tryd.ntmps43
 go_wp2_with fail
 go_loopw [3,4] (fun n i wr=> ∃k m:Nat,i= .int .i64 k∧n= .int .i64 m∧m≤65535∧k≤s.size+1∧Hid ((k≤s.size→k%2=0∧m=r15 (256*dh s k+dl s k))∧(s.size≤k→m=r15 (256*dh s s.size+dl s s.size)))∧w=wr) (fun _ i _=>s.size+1-(intOf i).toNat)
 case atStart=>exact⟨0,0,rfl,rfl,by omega,by omega,Lib.hid ⟨fun _=>⟨rfl,rfl⟩,fun h=>by rw[show s.size=0 by omega];rfl⟩,rfl⟩
 case round=>
  obtain⟨k,m,rfl,rfl,hm,hk,hI,rfl⟩:=hrel;by_cases hlt:k<s.size
  ·have t1:decide ((k:Int)<(s.size:Int))=true:=by simp;omega
   obtain⟨he,hmr⟩:=hI.out.1 (by omega);have i0:=fun V=>idx_at s k hlt V;rw[at0_at]at i0;have l0:=at0_lt s k;have hd:=d_even s (k/2);have hd2:=d_odd s (k/2);rw[show 2*(k/2)=k by omega]at hd hd2;have zm:(m:Int)≤65535:=by omega
   have zk:(k:Int)≤1099511627776:=by omega
   by_cases hl2:k+1<s.size
   ·have t2:decide ((k:Int)+1<(s.size:Int))=true:=by simp;omega
    have i1:=fun V=>idx_at s (k+1) hl2 V;rw[at0_at,show((k+1:Nat):Int)=(k:Int)+1 by omega]at i1;have l1:=at0_lt s (k+1);obtain⟨x,hx⟩: ∃x,at0 s k=x:=⟨_,rfl⟩;obtain⟨y,hy⟩: ∃y,at0 s (k+1)=y:=⟨_,rfl⟩;rw[hx]at i0 l0 hd2;rw[hy]at i1 l1 hd2;have z0:(x:Int)≤255:=by omega
    have z1:(y:Int)≤255:=by omega
    have hadd:=r15_add (256*dh s k+dl s k) (256*x+y) (by omega);rw[←hd2,←hmr]at hadd
    have hnext: ∀m',r15 (256*dh s (k+2)+dl s (k+2))=m'→Hid ((k+2≤s.size→(k+2)%2=0∧m'=r15 (256*dh s (k+2)+dl s (k+2)))∧(s.size≤k+2→m'=r15 (256*dh s s.size+dl s s.size))):=fun m' h=>Lib.hid ⟨fun _=>⟨by omega,h.symm⟩,fun hs2=>by
     obtain h0:s.size=k+2:=by omega
     rw[h0];exact h.symm⟩
    have HN:=Lib.hid hnext;have HA:=Lib.hid hadd;clear hnext hadd hd hd2 hx hy hI hmr l0 l1;by_cases ho:65535<m+(256*x+y)
    ·have t3:decide (65535<(m:Int)+256*(x:Int)+(y:Int))=true:=by simp;omega
     have HZ:=Lib.hid (HA.out.trans (if_pos ho));have HC:=Lib.hid (show(m:Int)+256*(x:Int)+(y:Int)-65535=((m+(256*x+y)-65535:Nat):Int) by omega)
     go_wp2_with fail
     rw[HC.out]
     go_roundw
     case rel=>exact⟨k+2,_,by go_num,rfl,by omega,by omega,HN.out _ HZ.out,trivial⟩
     case measure=>simp[intOf];omega
    ·have t3:decide (65535<(m:Int)+256*(x:Int)+(y:Int))=false:=by simp;omega
     have HZ:=Lib.hid (HA.out.trans (if_neg ho));have HC:=Lib.hid (show(m:Int)+256*(x:Int)+(y:Int)=((m+(256*x+y):Nat):Int) by omega)
     go_wp2_with fail
     rw[HC.out]
     go_roundw
     case rel=>exact⟨k+2,_,by go_num,rfl,by omega,by omega,HN.out _ HZ.out,trivial⟩
     case measure=>simp[intOf];omega
   ·have t2:decide ((k:Int)+1<(s.size:Int))=false:=by simp;omega
    obtain⟨x,hx⟩: ∃x,at0 s k=x:=⟨_,rfl⟩;rw[hx]at i0 l0 hd;have z0:(x:Int)≤255:=by omega
    have hadd:=r15_add (256*dh s k+dl s k) (256*x) (by omega);rw[←hd,←hmr,show k+1=s.size by omega]at hadd;have hks:s.size=k+1:=by omega
    have hnext: ∀m',r15 (256*dh s s.size+dl s s.size)=m'→Hid ((k+2≤s.size→(k+2)%2=0∧m'=r15 (256*dh s (k+2)+dl s (k+2)))∧(s.size≤k+2→m'=r15 (256*dh s s.size+dl s s.size))):=fun m' h=>Lib.hid ⟨fun _=>by omega,fun _=>h.symm⟩;have HN:=Lib.hid hnext;have HA:=Lib.hid hadd;clear hnext hadd hd hd2 hx hI hmr l0;by_cases ho:65535<m+256*x
    ·have t3:decide (65535<(m:Int)+256*(x:Int))=true:=by simp;omega
     have HZ:=Lib.hid (HA.out.trans (if_pos ho));have HC:=Lib.hid (show(m:Int)+256*(x:Int)-65535=((m+256*x-65535:Nat):Int) by omega)
     go_wp2_with fail
     rw[HC.out]
     go_roundw
     case rel=>exact⟨k+2,_,by go_num,rfl,by omega,by omega,HN.out _ HZ.out,trivial⟩
     case measure=>simp[intOf];omega
    ·have t3:decide (65535<(m:Int)+256*(x:Int))=false:=by simp;omega
     have HZ:=Lib.hid (HA.out.trans (if_neg ho));have HC:=Lib.hid (show(m:Int)+256*(x:Int)=((m+256*x:Nat):Int) by omega)
     go_wp2_with fail
     rw[HC.out]
     go_roundw
     case rel=>exact⟨k+2,_,by go_num,rfl,by omega,by omega,HN.out _ HZ.out,trivial⟩
     case measure=>simp[intOf];omega
  ·have t1:decide ((k:Int)<(s.size:Int))=false:=by simp;omega
   have HE:=Lib.hid (show dsum s=65535-m by unfold dsum;rw[←hI.out.2 (by omega)]);have HC:=Lib.hid (show((65535-m:Nat):Int)=65535-(m:Int) by omega);have zm:(m:Int)≤65535:=by omega
   clear hI
   go_wp2_with fail
   rw[HRR.out,HE.out,HC.out];exact⟨rfl,rfl⟩
end Go.Proofs.YtibjkhepedfpiaaDoor.DgD
namespace Go.Proofs.YtibjkhepedfpiaaDoor.DgF
open Go Go.RowKit Q Mem Rg Ap St BiH SeI SeEq DgP DgB DgC
set_option maxRecDepth 100000
end Go.Proofs.YtibjkhepedfpiaaDoor.DgF
namespace Go.Proofs.YtibjkhepedfpiaaDoor.DgG
open Go Go.RowKit Q Mem Rg Ap St BiH SeI SeEq DgP DgB DgC DgD DgF
set_option maxRecDepth 100000
end Go.Proofs.YtibjkhepedfpiaaDoor.DgG
namespace Go.Proofs.YtibjkhepedfpiaaDoor.DgM
open Go Go.RowKit Q Mem Rg Ap St Ints BiH SeI SeEq DgP DgB DgC DgD
set_option maxRecDepth 100000 in
theorem text7_any (a:Option Addr) (c m:Nat) (L:List Int) (w:World) (hm:L.length=m) (hl:L.length≤1000) (hL:Ints w a L) (hv:inB 255 L=true):
 Calls Tryd.prog 42 #[.slice a m c] w fun e w'=>e= .returned (.string (strOfNums L))∧Below w.heap.size w w':=by
 subst hm;have HL:=Lib.hid hL;clear hL
 go_enter Tryd.func42,Tryd.ntmps42
 go_wp2_with fail
 go_loopw [3,4] (fun out i wr=> ∃(k:Nat) (b:ByteArray),k≤L.length∧out= .string b∧i= .int .i64 k∧Hid (b=strOfNums (L.take k))∧b.size≤k∧Below w.heap.size w wr) (fun _ i _=>L.length-(intOf i).toNat)
 case atStart=>exact⟨0,nob,by omega,rfl,rfl,Lib.hid rfl,Nat.zero_le _,Below.refl _ _⟩
 case round=>
  obtain⟨k,b,hk,rfl,rfl,hI,hbs,hb⟩:=hrel;by_cases hkl:k<L.length
  ·have t0:decide (k<L.length)=true:=by simpa using hkl
   obtain⟨x,hx⟩: ∃x,L[k]? =some x:=⟨L[k],List.getElem?_eq_getElem hkl⟩
   have hx1:0≤x∧x≤255:=by
    have:=List.all_eq_true.1 hv x (List.mem_of_getElem? hx);simpa [in1]using this
   obtain⟨b1,o1,rfl,l1,c1⟩:=HL.out.below (Nat.le_refl _) hb k x hx;have q2:IntKind.u8.wrap x=x:=by rw[IntKind.wrap_u8];omega
   have hcv:=conv_new wr [x] 1 wr.heap.size #[.int .u8 x] rfl rfl rfl;have hadd: ∀U:World,(Op.stringOp .add b (strOfNums [x])).run Tryd.prog U= .ok (.string (b++strOfNums [x])) U:=fun U=>run_string_add_sum U _ _ (by rw[son_size];simp only[List.length_cons,List.length_nil];omega)
   have hnew:b++strOfNums [x]=strOfNums (L.take (k+1)):=by
    rw[hI.out,son_append,List.take_add_one,hx];rfl
   have hbs2:(b++strOfNums [x]).size≤k+1:=by rw[ByteArray.size_append,son_size];simp only[List.length_cons,List.length_nil];omega
   have HN:=Lib.hid hnew;have hb2:=hb.alloc hb.size (.cells #[.int .u8 x] 5);clear hnew hx hx1 hb hv
   go_wp2_with fail
   go_roundw
   case rel=>exact⟨k+1,_,by omega,rfl,by go_num,HN,hbs2,hb2⟩
   case measure=>simp[intOf];omega
  ·obtain rfl:k=L.length:=by omega
   have t0:decide (L.length<L.length)=false:=by simp
   have HB:=Lib.hid (hI.out.trans (by rw[List.take_length]));clear hI
   go_wp2_with fail
   go_ret;exact⟨by rw[HB.out];rfl,hb⟩
def mkN (n:Nat) (p:Int):List Int:=[69,0,(n:Int)/256,(n:Int)%256,0,0,0,0,64,p]
def mkC (f t:ByteArray) (p:Int) (n:Nat):Nat:=dsum (strOfNums (mkN n p)++str [0,0]++f++t)
def mkD (f t:ByteArray) (p:Int) (b:ByteArray):ByteArray:=
 strOfNums (mkN (20+b.size) p)++strOfNums [(mkC f t p (20+b.size):Int)/256,(mkC f t p (20+b.size):Int)%256]++f++t++b
set_option maxRecDepth 100000
set_option maxHeartbeats 800000 in
theorem make_any (f t b:ByteArray) (p:Int) (w:World) (hf:f.size≤16) (ht:t.size≤16) (hb:b.size≤4060) (hp:0≤p∧p≤255):Calls Tryd.prog 30 #[.string f,.string t,.int .i64 p,.string b] w fun e w'=>e= .returned (.tuple #[.string (mkD f t p b),.int .i64 0])∧Below w.heap.size w w':=by
 obtain⟨hp1,hp2⟩:=hp;have HT:=Lib.hid (fun(a:Option Addr) (W:World) (h:Ints W a (mkN (20+b.size) p))=>text7_any a 10 10 (mkN (20+b.size) p) W rfl (by simp[mkN]) h (by simp[inB,in1,mkN];omega));have HT2:=Lib.hid (fun(a:Option Addr) (W:World) (c:Nat) (hc:c≤65535) (h:Ints W a [(c:Int)/256,(c:Int)%256])=>text7_any a 2 2 [(c:Int)/256,(c:Int)%256] W rfl (by simp) h (by simp[inB,in1];omega));have ks:=fun V=>rsum_any (strOfNums (mkN (20+b.size) p)++str [0,0]++f++t) V (by rw[ByteArray.size_append,ByteArray.size_append,ByteArray.size_append,son_size,str_size];simp[mkN];omega);have hN:mkN (20+b.size) p=[69,0,(20+(b.size:Int))/256,(20+(b.size:Int))%256,0,0,0,0,64,p]:=by unfold mkN;simp
 have hD:mkD f t p b=strOfNums (mkN (20+b.size) p)++strOfNums [(mkC f t p (20+b.size):Int)/256,(mkC f t p (20+b.size):Int)%256]++f++t++b:=rfl;have hcle:mkC f t p (20+b.size)≤65535:=dsum_le _;have hsz:(strOfNums (mkN (20+b.size) p)).size=10:=by rw[son_size];rfl
 rw[show dsum (strOfNums (mkN (20+b.size) p)++str [0,0]++f++t)=mkC f t p (20+b.size)from rfl]at ks;obtain⟨C,hC⟩: ∃C,mkC f t p (20+b.size)=C:=⟨_,rfl⟩;rw[hC]at ks hD hcle;obtain⟨H,hH⟩: ∃H,strOfNums (mkN (20+b.size) p)=H:=⟨_,rfl⟩;rw[hH]at ks hD HT hsz;obtain⟨K,hK⟩: ∃K,strOfNums [(C:Int)/256,(C:Int)%256]=K:=⟨_,rfl⟩;have hks:K.size=2:=by rw[←hK,son_size];rfl
 rw[hK]at hD;have a1:=fun V=>add_at H (str [0,0]) (by rw[str_size];simp;omega) V;have a2:=fun V=>add_at (H++str [0,0]) f (by rw[ByteArray.size_append,str_size];simp;omega) V;have a3:=fun V=>add_at (H++str [0,0]++f) t (by rw[ByteArray.size_append,ByteArray.size_append,str_size];simp;omega) V;have b1:=fun V=>add_at H K (by omega) V;have b2:=fun V=>add_at (H++K) f (by rw[ByteArray.size_append];omega) V;have b3:=fun V=>add_at (H++K++f) t (by rw[ByteArray.size_append,ByteArray.size_append];omega) V;have b4:=fun V=>add_at (H++K++f++t) b (by rw[ByteArray.size_append,ByteArray.size_append,ByteArray.size_append];omega) V;rw[←hD]at b4;rw[show str [0,0]=(⟨#[0,0]⟩:ByteArray)from rfl]at a1 a2 a3 ks;have t1:decide (p<0)=false:=by simp;omega
 have t2:decide (255<p)=false:=by simp;omega
 have t3:decide (4080<20+(b.size:Int))=false:=by simp;omega
 have hnb:(b.size:Int)≤4060:=by omega
 have HNN:=Lib.hid hN;have HKK:=Lib.hid hK;have hC2:(C:Int)≤65535:=by omega
 have HCL:=Lib.hid hcle;clear hN hK hC hH hD hcle hsz hks hf ht hb
 go_enter Tryd.func30,Tryd.ntmps30
 go_wp2_with fail
 have k1:=HT.out _ _ (ints_blk (Blk.new w 3 #[.int .i64 69,.int .i64 0,.int .i64 ((20+(b.size:Int))/256),.int .i64 ((20+(b.size:Int))%256),.int .i64 0,.int .i64 0,.int .i64 0,.int .i64 0,.int .i64 64,.int .i64 p]) (by rw[HNN.out];rfl))
 (with_reducible refine(k1).mono ?_);rintro e1 W1 ⟨rfl,hb1⟩
 have hE1:=((Below.refl w.heap.size w).alloc (Nat.le_refl _) (.cells #[.int .i64 69,.int .i64 0,.int .i64 ((20+(b.size:Int))/256),.int .i64 ((20+(b.size:Int))%256),.int .i64 0,.int .i64 0,.int .i64 0,.int .i64 0,.int .i64 64,.int .i64 p] 3)).trans (hb1.mono (by simp));clear k1 HT hb1
 go_wp2_with fail
 (with_reducible refine(ks _).mono ?_);rintro e1 W2 ⟨rfl,rfl⟩
 clear ks a1 a2 a3
 go_wp2_with fail
 have k2:=HT2.out _ _ C HCL.out (ints_blk (Blk.new W1 3 #[.int .i64 ((C:Int)/256),.int .i64 ((C:Int)%256)]) rfl);rw[HKK.out]at k2
 (with_reducible refine(k2).mono ?_);rintro e1 W3 ⟨rfl,hb3⟩
 have hE3:=(hE1.alloc hE1.size (.cells #[.int .i64 ((C:Int)/256),.int .i64 ((C:Int)%256)] 3)).trans (hb3.mono (by simp;have:=hE1.size;omega));clear k2 HT2 hb3 hE1
 go_wp2_with fail
 go_ret2
 exact⟨rfl,hE3⟩
end Go.Proofs.YtibjkhepedfpiaaDoor.DgM
namespace Go.Proofs.YtibjkhepedfpiaaDoor.DgN
open Go Go.RowKit St Ints BiH DgP DgB DgC DgM
theorem at0_bl {s:ByteArray} {i:Nat} {b:UInt8} (h:(bl s)[i]? =some b):at0 s i=b.toNat:=by
 unfold at0;rw[←Array.getElem?_toList,show s.data.toList=bl s from rfl,h];rfl
theorem sum20 {X Y:ByteArray} {a b:Nat} (h: ∀i,i<20→i≠10→i≠11→at0 X i=at0 Y i) (h10:at0 X 10=a) (h11:at0 X 11=b) (g10:at0 Y 10=0) (g11:at0 Y 11=0):
 256*dh X 20+dl X 20=(256*dh Y 20+dl Y 20)+(256*a+b):=by
 have e0:=h 0 (by omega) (by omega) (by omega);have e1:=h 1 (by omega) (by omega) (by omega);have e2:=h 2 (by omega) (by omega) (by omega);have e3:=h 3 (by omega) (by omega) (by omega);have e4:=h 4 (by omega) (by omega) (by omega);have e5:=h 5 (by omega) (by omega) (by omega);have e6:=h 6 (by omega) (by omega) (by omega);have e7:=h 7 (by omega) (by omega) (by omega);have e8:=h 8 (by omega) (by omega) (by omega);have e9:=h 9 (by omega) (by omega) (by omega);have e12:=h 12 (by omega) (by omega) (by omega);have e13:=h 13 (by omega) (by omega) (by omega);have e14:=h 14 (by omega) (by omega) (by omega);have e15:=h 15 (by omega) (by omega) (by omega);have e16:=h 16 (by omega) (by omega) (by omega);have e17:=h 17 (by omega) (by omega) (by omega);have e18:=h 18 (by omega) (by omega) (by omega);have e19:=h 19 (by omega) (by omega) (by omega);simp only[dh,dl];simp only[e0,e1,e2,e3,e4,e5,e6,e7,e8,e9,e12,e13,e14,e15,e16,e17,e18,e19,h10,h11,g10,g11];simp;omega
theorem dsum_mend {X Y:ByteArray} (hX:X.size=20) (hY:Y.size=20) (h: ∀i,i<20→i≠10→i≠11→at0 X i=at0 Y i) (h10:at0 X 10=dsum Y/256) (h11:at0 X 11=dsum Y%256) (g10:at0 Y 10=0) (g11:at0 Y 11=0):dsum X=0:=by
 have hs:=sum20 h h10 h11 g10 g11;have hc:256*(dsum Y/256)+dsum Y%256=dsum Y:=by omega
 rw[hc]at hs;unfold dsum;rw[hX,hs,r15_add _ _ (dsum_le Y)];have hd:dsum Y=65535-r15 (256*dh Y 20+dl Y 20):=by unfold dsum;rw[hY]
 have hle:=r15_le (256*dh Y 20+dl Y 20);rw[if_neg (by omega)];omega
theorem mk_ok (f t b:ByteArray) (p:Int) (hf:f.size=4) (ht:t.size=4) (hb:b.size≤4060):dgE (mkD f t p b)=0∧(mkD f t p b).size=20+b.size:=by
 obtain⟨n,hn⟩: ∃n,20+b.size=n:=⟨_,rfl⟩
 have hsz:(mkD f t p b).size=n:=by
  unfold mkD;rw[ByteArray.size_append,ByteArray.size_append,ByteArray.size_append,ByteArray.size_append,son_size,son_size];simp only[mkN,List.length_cons,List.length_nil];omega
 obtain⟨C,hC⟩: ∃C,mkC f t p n=C:=⟨_,rfl⟩;have hCl:C≤65535:=by rw[←hC];exact dsum_le _
 have hbl:bl (mkD f t p b)=([69,0,UInt8.ofNat (n/256),UInt8.ofNat (n%256),0,0,0,0,64,UInt8.ofNat p.toNat,UInt8.ofNat (C/256),UInt8.ofNat (C%256)]++(bl f++(bl t++bl b))):=by
  unfold mkD;rw[hn,hC,bl_app,bl_app,bl_app,bl_app,nums_str,nums_str,bl_str,bl_str];have q1:((n:Int)/256).toNat=n/256:=by omega
  have q2:((n:Int)%256).toNat=n%256:=by omega
  have q3:((C:Int)/256).toNat=C/256:=by omega
  have q4:((C:Int)%256).toNat=C%256:=by omega
  simp only[mkN,List.map_cons,List.map_nil,q1,q2,q3,q4,List.append_assoc,List.cons_append,List.nil_append];rfl
 have hy:bl (strOfNums (mkN n p)++str [0,0]++f++t)=([69,0,UInt8.ofNat (n/256),UInt8.ofNat (n%256),0,0,0,0,64,UInt8.ofNat p.toNat,0,0]++(bl f++bl t)):=by
  rw[bl_app,bl_app,bl_app,nums_str,bl_str,bl_str];have q1:((n:Int)/256).toNat=n/256:=by omega
  have q2:((n:Int)%256).toNat=n%256:=by omega
  simp only[mkN,List.map_cons,List.map_nil,q1,q2,List.cons_append,List.nil_append];rfl
 have lf:(bl f).length=4:=by rw[bl_len];exact hf
 have lt:(bl t).length=4:=by rw[bl_len];exact ht
 match hbf:bl f,lf,hbt:bl t,lt with
 |[f0,f1,f2,f3],_,[t0,t1,t2,t3],_=>
  rw[hbf,hbt]at hbl hy;have k:=fun(i:Nat) (x:UInt8) (h:(bl (mkD f t p b))[i]? =some x)=>at0_bl h;have o: ∀m,m<256→(UInt8.ofNat m).toNat=m:=fun m hm=>by rw[UInt8.toNat_ofNat'];omega
  have a0:=k 0 69 (by rw[hbl];rfl);have a2:=k 2 (UInt8.ofNat (n/256)) (by rw[hbl];rfl);have a3:=k 3 (UInt8.ofNat (n%256)) (by rw[hbl];rfl);rw[o _ (by omega)]at a2 a3;rw[show(69:UInt8).toNat=69 from rfl]at a0
  have hh:hd4 (mkD f t p b)=⟨4,20,n,at0 (mkD f t p b) 9⟩:=by
   unfold hd4;rw[a0,a2,a3]
   congr 1
   omega
  have h1:pkE (mkD f t p b)=0:=by
   unfold pkE;rw[if_neg (by omega),a0,if_pos (by decide),if_neg (by omega),hh];unfold hdE;dsimp only;rw[if_neg (by omega),if_neg (by omega)]
  have h2:pkH (mkD f t p b)=⟨4,20,n,at0 (mkD f t p b) 9⟩:=by
   unfold pkH;rw[if_pos h1,a0,if_pos (by decide),hh]
  refine⟨?_,by rw[hsz];omega⟩;unfold dgE;rw[if_neg (by simpa using h1),h2,hsz];dsimp only;rw[if_neg (by omega),if_neg (by omega),if_neg];rintro⟨_,hd⟩;apply hd
  have hX:bl ((mkD f t p b).extract 0 (20:Int).toNat)=[69,0,UInt8.ofNat (n/256),UInt8.ofNat (n%256),0,0,0,0,64,UInt8.ofNat p.toNat,UInt8.ofNat (C/256),UInt8.ofNat (C%256),f0,f1,f2,f3,t0,t1,t2,t3]:=by
   rw[ext_bl,hbl];rfl
  have hyc:dsum (strOfNums (mkN n p)++str [0,0]++f++t)=C:=hC;obtain⟨X,hXe⟩: ∃X,(mkD f t p b).extract 0 (20:Int).toNat=X:=⟨_,rfl⟩;obtain⟨Y,hYe⟩: ∃Y,strOfNums (mkN n p)++str [0,0]++f++t=Y:=⟨_,rfl⟩;rw[hXe]at hX ⊢;rw[hYe]at hy hyc;have x:=fun(i:Nat) (b:UInt8) (h:(bl X)[i]? =some b)=>at0_bl h;have y:=fun(i:Nat) (b:UInt8) (h:(bl Y)[i]? =some b)=>at0_bl h;refine dsum_mend (Y:=Y) (by rw[←bl_len,hX];rfl) (by rw[←bl_len,hy];rfl) (fun i hi h10 h11=>?_) ?_ ?_ ?_ ?_
  ·match i,hi,h10,h11 with
   |0,_,_,_=>rw[x 0 69 (by rw[hX];rfl),y 0 69 (by rw[hy];rfl)]
   |1,_,_,_=>rw[x 1 0 (by rw[hX];rfl),y 1 0 (by rw[hy];rfl)]
   |2,_,_,_=>rw[x 2 _ (by rw[hX];rfl),y 2 _ (by rw[hy];rfl)]
   |3,_,_,_=>rw[x 3 _ (by rw[hX];rfl),y 3 _ (by rw[hy];rfl)]
   |4,_,_,_=>rw[x 4 0 (by rw[hX];rfl),y 4 0 (by rw[hy];rfl)]
   |5,_,_,_=>rw[x 5 0 (by rw[hX];rfl),y 5 0 (by rw[hy];rfl)]
   |6,_,_,_=>rw[x 6 0 (by rw[hX];rfl),y 6 0 (by rw[hy];rfl)]
   |7,_,_,_=>rw[x 7 0 (by rw[hX];rfl),y 7 0 (by rw[hy];rfl)]
   |8,_,_,_=>rw[x 8 64 (by rw[hX];rfl),y 8 64 (by rw[hy];rfl)]
   |9,_,_,_=>rw[x 9 _ (by rw[hX];rfl),y 9 _ (by rw[hy];rfl)]
   |12,_,_,_=>rw[x 12 f0 (by rw[hX];rfl),y 12 f0 (by rw[hy];rfl)]
   |13,_,_,_=>rw[x 13 f1 (by rw[hX];rfl),y 13 f1 (by rw[hy];rfl)]
   |14,_,_,_=>rw[x 14 f2 (by rw[hX];rfl),y 14 f2 (by rw[hy];rfl)]
   |15,_,_,_=>rw[x 15 f3 (by rw[hX];rfl),y 15 f3 (by rw[hy];rfl)]
   |16,_,_,_=>rw[x 16 t0 (by rw[hX];rfl),y 16 t0 (by rw[hy];rfl)]
   |17,_,_,_=>rw[x 17 t1 (by rw[hX];rfl),y 17 t1 (by rw[hy];rfl)]
   |18,_,_,_=>rw[x 18 t2 (by rw[hX];rfl),y 18 t2 (by rw[hy];rfl)]
   |19,_,_,_=>rw[x 19 t3 (by rw[hX];rfl),y 19 t3 (by rw[hy];rfl)]
   |k+20,hk,_,_=>exact absurd hk (by omega)
  ·rw[hyc,x 10 (UInt8.ofNat (C/256)) (by rw[hX];rfl),o _ (by omega)]
  ·rw[hyc,x 11 (UInt8.ofNat (C%256)) (by rw[hX];rfl),o _ (by omega)]
  ·rw[y 10 0 (by rw[hy];rfl)];rfl
  ·rw[y 11 0 (by rw[hy];rfl)];rfl
end Go.Proofs.YtibjkhepedfpiaaDoor.DgN
