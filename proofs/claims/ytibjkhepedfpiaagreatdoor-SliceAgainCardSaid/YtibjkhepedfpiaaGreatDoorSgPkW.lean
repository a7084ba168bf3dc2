import Derived.Test.YtibjkhepedfpiaaGreatDoorSgPkG
import Derived.Test.YtibjkhepedfpiaaGreatDoorSgPkV
import Derived.Laws.IdiomCopy
import Derived.Lib.LazyBuf
import Derived.Lib.BufferWrite
namespace Go.Proofs.YtibjkhepedfpiaaGreatDoor.GfA
open Go Go.RowKit Q Mem Rg Ap St BiW TbM TbN GfP
set_option maxRecDepth 100000
def zf:Array Value:=Array.replicate 510 (.int .u8 0)++Array.replicate 256 (.int .i64 0)
def fldF (i k:Nat):Value:=if k<255 then(if k<i then u8v (ex k)else .int .u8 0)else if k<510 then(if k-255<i then u8v (ex (k-255))else .int .u8 0)else .int .i64 ((logI i (UInt8.ofNat (k-510)):Nat):Int)
theorem fld_zero (k:Nat) (hk:k<766):zf[k]? =some (fldF 0 k):=by
 unfold zf fldF;by_cases h:k<510
 ·rw[Array.getElem?_append_left (by simpa using h),Array.getElem?_replicate,if_pos h]
  by_cases h1:k<255
  ·rw[if_pos h1,if_neg (by omega)]
  ·rw[if_neg h1,if_pos h,if_neg (by omega)]
 ·rw[Array.getElem?_append_right (by simpa using h),Array.getElem?_replicate,if_pos (by simp;omega),if_neg (by omega),if_neg h]
  rfl
theorem fld_lo {i k:Nat} (h:k<255):fldF i k=if k<i then u8v (ex k)else .int .u8 0:=if_pos h
theorem fld_mid {i k:Nat} (h: ¬k<255) (h1:k<510):fldF i k=if k-255<i then u8v (ex (k-255))else .int .u8 0:=(if_neg h).trans (if_pos h1)
theorem fld_hi {i k:Nat} (h: ¬k<510):fldF i k= .int .i64 ((logI i (UInt8.ofNat (k-510)):Nat):Int):=(if_neg (by omega)).trans (if_neg h)
theorem fld_step (i k:Nat) (hi:i<255) (hk:k<766):(if k=510+(ex i).toNat then Value.int .i64 (i:Int)else if k=i+255 then u8v (ex i)else if k=i then u8v (ex i)else fldF i k)=fldF (i+1) k:=by
 have hx:(ex i).toNat<256:=(ex i).toNat_lt;by_cases h:k<510
 ·rw[if_neg (by omega)]
  by_cases h1:k<255
  ·rw[if_neg (by omega),fld_lo h1,fld_lo h1]
   by_cases h2:k=i
   ·rw[if_pos h2,if_pos (by omega),h2]
   ·rw[if_neg h2]
    by_cases h3:k<i
    ·rw[if_pos h3,if_pos (by omega)]
    ·rw[if_neg h3,if_neg (by omega)]
  ·rw[fld_mid h1 h,fld_mid h1 h]
   by_cases h2:k=i+255
   ·rw[if_pos h2,if_pos (by omega),h2,Nat.add_sub_cancel]
   ·rw[if_neg h2,if_neg (by omega)]
    by_cases h3:k-255<i
    ·rw[if_pos h3,if_pos (by omega)]
    ·rw[if_neg h3,if_neg (by omega)]
 ·rw[fld_hi h,fld_hi h,logI]
  by_cases h2:k=510+(ex i).toNat
  ·have e:UInt8.ofNat (k-510)=ex i:=by rw[h2,Nat.add_sub_cancel_left];exact UInt8.ofNat_toNat
   rw[if_pos h2,if_pos e]
  ·have e: ¬UInt8.ofNat (k-510)=ex i:=fun e=>h2 (by
    rw[←e,UInt8.toNat_ofNat_of_lt' (by show k-510<256;omega)];omega)
   rw[if_neg h2,if_neg (by omega),if_neg (by omega),if_neg e]
def Fld (w:World) (g:Nat):Prop:=Fm w g 296 766 (fldF 255)
theorem ex_twice (i:Nat):((ex (i+1)).toNat:Int)=if 128≤(ex i).toNat then bits .xor .i64 (2*((ex i).toNat:Int)) 285 else 2*((ex i).toNat:Int):=by
 have key: ∀x:UInt8,((dbl x).toNat:Int)=if 128≤x.toNat then bits .xor .i64 (2*(x.toNat:Int)) 285 else 2*(x.toNat:Int):=by
  intro x;have h: ∀n:Fin 256,((dbl (UInt8.ofNat n)).toNat:Int)=if 128≤n.val then bits .xor .i64 (2*(n.val:Int)) 285 else 2*(n.val:Int):=by decide+kernel
  have:=h ⟨x.toNat,x.toNat_lt⟩
  rwa [show UInt8.ofNat (⟨x.toNat,x.toNat_lt⟩:Fin 256).val=x from UInt8.ofNat_toNat]at this
 exact key (ex i)
theorem kq_set {a b:World} {g i:Nat} {u:Value} (h:Kept (fun j=>j=g) a b):Kept (fun j=>j=g) a (b.setCell ⟨g,i,none⟩ u):=h.trans (kept_set (F:=fun j=>j=g) rfl) (fun _ _ h=>h)
theorem kq_drew {a b:World} {F:Nat→Prop} (h:Kept F a b):Kept F a b.drew:=⟨h.os,h.tape,h.output,h.size,h.block⟩
set_option maxHeartbeats 1600000 in
theorem new_any (w:World):Calls Tryz.prog 164 #[] w fun e w'=>e= .returned (.pointer (some ⟨w.heap.size,0,none⟩))∧Fld w' w.heap.size∧Below w.heap.size w w':=by
 have hz:Tryz.zeroCells296=zf:=by kernel_rfl
 have hF0:Fm (w.alloc (.cells Tryz.zeroCells296 296)) w.heap.size 296 766 (fldF 0):=⟨zf,by rw[hz];exact heap_alloc_new w _,by simp[zf],fun k hk=>fld_zero k hk⟩;have hb0:=(Below.refl w.heap.size w).alloc (Nat.le_refl _) (.cells Tryz.zeroCells296 296);clear hz
 go_enter Tryz.func164,Tryz.ntmps164
 go_wp2_with fail
 go_loopw [2,6] (fun xv iv W=> ∃k:Nat,k≤255∧iv= .int .i64 k∧xv= .int .i64 ((ex k).toNat:Int)∧Fm W w.heap.size 296 766 (fldF k)∧Below w.heap.size w W) (fun _ iv _=>255-(intOf iv).toNat)
 case atStart=>exact⟨0,by omega,rfl,rfl,hF0,hb0⟩
 case round=>
  obtain⟨k,hk,rfl,rfl,hF,hb⟩:=hrel;by_cases hk5:k<255
  ·have t0:decide ((k:Int)<255)=true:=decide_eq_true (by omega)
   have hF':=Fm.drew hF;obtain⟨x,hx⟩: ∃x,(ex k).toNat=x:=⟨_,rfl⟩;have hx8:x<256:=by rw[←hx];exact(ex k).toNat_lt
   have hu:u8v (ex k)= .int .u8 (x:Int):=by rw[←hx];rfl
   have HT:=Lib.hid (ex_twice k);have HS:=Lib.hid (fld_step k);rw[hx]at HT HS;rw[hu]at HS;have d0:=hF'.cell k (by omega);have d1:=hF'.cell (k+255) (by omega);have g0:=hF'.frozen k;have g1:=hF'.frozen (k+255);have hA:=hF'.put k (.int .u8 (x:Int));have hB:=hF'.put (k+255) (.int .u8 (x:Int));have p1:(wr.setCell ⟨w.heap.size,k,none⟩ (.int .u8 (x:Int))).drew.cell? ⟨w.heap.size,k+255,none⟩=some _:=hA.cell (k+255) (by omega);have p2:(wr.setCell ⟨w.heap.size,k,none⟩ (.int .u8 (x:Int))).drew.frozen? ⟨w.heap.size,k+255,none⟩=false:=hA.frozen (k+255);have p3:(wr.setCell ⟨w.heap.size,k+255,none⟩ (.int .u8 (x:Int))).drew.cell? ⟨w.heap.size,k,none⟩=some _:=hB.cell k (by omega);have p4:(wr.setCell ⟨w.heap.size,k+255,none⟩ (.int .u8 (x:Int))).drew.frozen? ⟨w.heap.size,k,none⟩=false:=hB.frozen k;have hAB:=hA.put (k+255) (.int .u8 (x:Int));have hBA:=hB.put k (.int .u8 (x:Int));have q0:(0:Int)≤(k:Int):=Int.natCast_nonneg _;have q1:(k:Int)<255:=by omega
   have q2:(0:Int)≤(x:Int):=Int.natCast_nonneg _;have q3:(x:Int)<256:=by omega
   have hC:Fm ((wr.setCell ⟨w.heap.size,k,none⟩ (.int .u8 (x:Int))).setCell ⟨w.heap.size,k+255,none⟩ (.int .u8 (x:Int))).drew w.heap.size 296 766 _:=hAB;have r1:=hC.cell (510+x) (by omega);have r2:=hC.frozen (510+x);rw[if_neg (by omega),if_neg (by omega),fld_hi (by omega)]at r1;have hD:Fm (((wr.setCell ⟨w.heap.size,k,none⟩ (.int .u8 (x:Int))).setCell ⟨w.heap.size,k+255,none⟩ (.int .u8 (x:Int))).setCell ⟨w.heap.size,510+x,none⟩ (.int .i64 (k:Int))).drew w.heap.size 296 766 _:=hC.put (510+x) (.int .i64 (k:Int));have hE:=hD.congr (fun i hi=>HS.out i hk5 hi)
   have hbE:Below w.heap.size w (((wr.setCell ⟨w.heap.size,k,none⟩ (.int .u8 (x:Int))).setCell ⟨w.heap.size,k+255,none⟩ (.int .u8 (x:Int))).setCell ⟨w.heap.size,510+x,none⟩ (.int .i64 (k:Int))).drew:=
    hb.trans (Kept.be (kq_drew (kq_set (kq_set (kq_set (Kept.refl (fun j=>j=w.heap.size) wr))))) hb.size (fun i hi=>by omega))
   have HE:=Lib.hid (And.intro hE hbE);rw[hx];clear hx hu hF hF' hF0 hb0 hA hB hAB hBA hC hD hE hbE HS;by_cases h8:128≤x
   ·have t1:decide ((256:Int)≤(x:Int)*2)=true:=decide_eq_true (by omega)
    go_wp2_with fail
    go_region
    go_wp2_with fail
    go_roundw
    case rel=>
     refine⟨k+1,by omega,by congr 1,?_,HE.out.1,HE.out.2⟩;rw[HT.out,if_pos h8,Int.mul_comm]
    case measure=>simp[intOf];omega
   ·have t1:decide ((256:Int)≤(x:Int)*2)=false:=decide_eq_false (by omega)
    go_wp2_with fail
    go_region
    go_wp2_with fail
    go_roundw
    case rel=>
     refine⟨k+1,by omega,by congr 1,?_,HE.out.1,HE.out.2⟩;rw[HT.out,if_neg h8,Int.mul_comm]
    case measure=>simp[intOf];omega
  ·obtain rfl:k=255:=by omega
   go_wp2_with fail
   go_ret;exact⟨rfl,hF,hb⟩
theorem fld_exp {k:Nat} (h:k<510):fldF 255 k=u8v (ex k):=by
 by_cases h1:k<255
 ·rw[fld_lo h1,if_pos h1]
 ·rw[fld_mid h1 h,if_pos (by omega),←ex_per (k-255),show k-255+255=k by omega]
theorem fld_log (a:UInt8):fldF 255 (510+a.toNat)= .int .i64 ((lg a:Nat):Int):=by
 rw[fld_hi (by omega),Nat.add_sub_cancel_left,show UInt8.ofNat a.toNat=a from UInt8.ofNat_toNat];rfl
theorem Fld.below {w w':World} {g B:Nat} (h:Fld w g) (hb:Below B w w') (hg:g<B):Fld w' g:=Fm.below h hb hg
theorem Fld.be {w w':World} {g:Nat} (h:Fld w g) (hb:Below w.heap.size w w'):Fld w' g:=Fm.below h hb (Fm.lt h)
set_option maxHeartbeats 1600000 in
theorem mul_any (w:World) (g:Nat) (a b:UInt8) (h:Fld w g):Calls Tryz.prog 166 #[.pointer (some ⟨g,0,none⟩),.int .u8 (a.toNat:Int),.int .u8 (b.toNat:Int)] w fun e w'=>e= .returned (.int .u8 ((gm a b).toNat:Int))∧Below w.heap.size w w':=by
 have HG:=Lib.hid (show gm a b=if a=0∨b=0 then 0 else ex (lg a+lg b)from rfl);by_cases ha:a=0
 ·have t1:((a.toNat:Int)==0)=true:=by rw[ha];rfl
  have hR:(gm a b).toNat=0:=by rw[HG.out,if_pos (Or.inl ha)];rfl
  rw[hR];clear h
  go_enter Tryz.func166,Tryz.ntmps166
  go_wp2_with fail
  go_ret;exact⟨rfl,Below.refl _ _⟩
 ·have t1:((a.toNat:Int)==0)=false:=beq_eq_false_iff_ne.2 (fun e=>ha (UInt8.toNat_inj.1 (by simpa using e)))
  by_cases hb:b=0
  ·have t2:((b.toNat:Int)==0)=true:=by rw[hb];rfl
   have hR:(gm a b).toNat=0:=by rw[HG.out,if_pos (Or.inr hb)];rfl
   rw[hR];clear h
   go_enter Tryz.func166,Tryz.ntmps166
   go_wp2_with fail
   go_ret;exact⟨rfl,Below.refl _ _⟩
  ·have t2:((b.toNat:Int)==0)=false:=beq_eq_false_iff_ne.2 (fun e=>hb (UInt8.toNat_inj.1 (by simpa using e)))
   have hR:gm a b=ex (lg a+lg b):=by rw[HG.out,if_neg (by rintro(h|h);exact ha h;exact hb h)]
   have la:=lg_lt a;have lb:=lg_lt b;have c1:=fun p=>(Fm.ext h p).cell (510+a.toNat) (by have:=a.toNat_lt;omega);have c2:=fun p=>(Fm.ext h p).cell (510+b.toNat) (by have:=b.toNat_lt;omega);have c3:=fun p=>(Fm.ext h p).cell (lg a+lg b) (by omega);rw[fld_log]at c1 c2;rw[fld_exp (by omega),←hR]at c3;have q1:=a.toNat_lt;have q2:=b.toNat_lt;have HR:=Lib.hid (show u8v (gm a b)= .int .u8 ((gm a b).toNat:Int)from rfl);rw[HR.out]at c3;obtain⟨r,hr⟩: ∃r,(gm a b).toNat=r:=⟨_,rfl⟩;obtain⟨x,hx⟩: ∃x,a.toNat=x:=⟨_,rfl⟩;obtain⟨y,hy⟩: ∃y,b.toNat=y:=⟨_,rfl⟩;obtain⟨i,hi⟩: ∃i,lg a=i:=⟨_,rfl⟩;obtain⟨j,hj⟩: ∃j,lg b=j:=⟨_,rfl⟩;rw[hr]at c3 ⊢;rw[hx]at t1 c1 q1 ⊢;rw[hy]at t2 c2 q2 ⊢;rw[hi]at c1 c3 la;rw[hj]at c2 c3 lb;have q3:(0:Int)≤(x:Int):=Int.natCast_nonneg _;have q4:(0:Int)≤(y:Int):=Int.natCast_nonneg _;have q5:(0:Int)≤(i:Int):=Int.natCast_nonneg _;have q6:(0:Int)≤(j:Int):=Int.natCast_nonneg _;have q7:(x:Int)<256:=by omega
   have q8:(y:Int)<256:=by omega
   have q9:(i:Int)+(j:Int)<510:=by omega
   clear h hR hr hx hy hi hj HR HG ha hb q1 q2
   go_enter Tryz.func166,Tryz.ntmps166
   go_wp2_with fail
   refine Go.Proofs.YtibjkhepedfpiaaGreatDoor.Q.region_ext (by kernel_rfl) (by kernel_rfl) ?_
   repeat (go_big_quiet_step (fail))
   refine wpQuiet_nil ?_;rintro w9 ⟨pq,rfl⟩;have hbx:=below_ext w pq
   go_wp2_with fail
   go_ret;exact⟨rfl,hbx⟩
set_option maxHeartbeats 1600000 in
theorem exp_any (w:World) (g n:Nat) (h:Fld w g) (hn:n<255):Calls Tryz.prog 176 #[.pointer (some ⟨g,0,none⟩),.int .i64 (n:Int)] w fun e w'=>e= .returned (.int .u8 ((ex n).toNat:Int))∧w=w':=by
 have c1:=h.cell n (by omega);rw[fld_exp (by omega),show u8v (ex n)= .int .u8 ((ex n).toNat:Int)from rfl]at c1;have q1:(0:Int)≤(n:Int):=Int.natCast_nonneg _;have q2:(n:Int)<255:=by omega
 have e1:(n:Int)%255=(n:Int):=by omega
 have e2:((n:Int)+255)%255=(n:Int):=by omega
 obtain⟨r,hr⟩: ∃r,(ex n).toNat=r:=⟨_,rfl⟩;rw[hr]at c1 ⊢;clear h hr
 go_enter Tryz.func176,Tryz.ntmps176
 go_wp2_with fail
 go_ret;exact⟨rfl,rfl⟩
end Go.Proofs.YtibjkhepedfpiaaGreatDoor.GfA
namespace Go.Proofs.YtibjkhepedfpiaaGreatDoor.PoA
open Go Go.RowKit Q Mem Rg Ap St BiW BiG CrB SeEq TbM GfP PoP RsP GfA
def trimL (l:List UInt8):List UInt8:=(l.reverse.dropWhile (· ==0)).reverse
theorem trim_zero (l:List UInt8):trimL (l++[0])=trimL l:=by unfold trimL;rw[List.reverse_append];rfl
theorem trim_ne (l:List UInt8) {c:UInt8} (h:c≠0):trimL (l++[c])=l++[c]:=by
 unfold trimL;rw[List.reverse_append];show((c::l.reverse).dropWhile (· ==0)).reverse=_;rw[List.dropWhile_cons,if_neg (by simpa using h),List.reverse_cons,List.reverse_reverse]
theorem trim_take {l:List UInt8} {k:Nat} {c:UInt8} (h:l[k]? =some c):(c=0→trimL (l.take (k+1))=trimL (l.take k))∧(c≠0→trimL (l.take (k+1))=l.take (k+1)):=by
 rw[List.take_add_one,h];exact⟨fun e=>by rw[e];exact trim_zero _,fun e=>trim_ne _ e⟩
def fa (l:List UInt8) (i:Nat):UInt8:=l.getD i 0
theorem fa_out {l:List UInt8} {i:Nat} (h:l.length≤i):fa l i=0:=by simp[fa,List.getD_eq_getElem?_getD,List.getElem?_eq_none h]
theorem fa_in {l:List UInt8} {i:Nat} {b:UInt8} (h:l[i]? =some b):fa l i=b:=by simp[fa,List.getD_eq_getElem?_getD,h]
theorem trim_len (l:List UInt8):(trimL l).length≤l.length:=by
 unfold trimL;rw[List.length_reverse];have:=(List.dropWhile_sublist (· ==0) (l:=l.reverse)).length_le;simpa using this
theorem fa_trim (l:List UInt8) (i:Nat):fa (trimL l) i=fa l i:=by
 have key: ∀n,n≤l.length→fa (trimL (l.take n)) i=fa (l.take n) i:=fun n=>by
  induction n with
  |zero=>intro _;rw[List.take_zero];rfl
  |succ n ih=>
   intro hn;obtain⟨c,hc⟩: ∃c,l[n]? =some c:=⟨_,List.getElem?_eq_getElem (by omega)⟩;by_cases h0:c=0
   ·rw[(trim_take hc).1 h0,ih (by omega),List.take_add_one,hc,h0]
    unfold fa;rw[List.getD_eq_getElem?_getD,List.getD_eq_getElem?_getD,Option.toList_some];rcases Nat.lt_or_ge i (l.take n).length with h|h
    ·rw[List.getElem?_append_left h]
    ·rw[List.getElem?_append_right h,List.getElem?_eq_none h]
     cases hi:i-(l.take n).length with
     |zero=>rfl
     |succ q=>simp
   ·rw[(trim_take hc).2 h0]
 have:=key l.length (Nat.le_refl _)
 rwa [List.take_length]at this
def mulL (a b:List UInt8):List UInt8:=(List.range (a.length+b.length)).map (cv (fa a) (fa b))
def mulK (a b:List UInt8) (i k n:Nat):UInt8:=sm (fun j=>if j≤n∧n<j+b.length then gm (fa a j) (fa b (n-j))else 0) i^^^(if i≤n∧n<i+k then gm (fa a i) (fa b (n-i))else 0)
theorem mulK_zero (a b:List UInt8) (n:Nat):mulK a b 0 0 n=0:=by
 unfold mulK;rw[if_neg (by omega),x0];rfl
theorem mulK_row (a b:List UInt8) (i n:Nat):mulK a b i b.length n=mulK a b (i+1) 0 n:=by
 unfold mulK;rw[if_neg (show ¬(i+1≤n∧n<i+1+0) by omega),x0,sm]
theorem mulK_step (a b:List UInt8) (i k n:Nat):(if n=i+k then mulK a b i k (i+k)^^^gm (fa a i) (fa b k)else mulK a b i k n)=mulK a b i (k+1) n:=by
 unfold mulK;by_cases h:n=i+k
 ·rw[if_pos h,h,if_neg (show ¬(i≤i+k∧i+k<i+k) by omega),if_pos (show i≤i+k∧i+k<i+(k+1) by omega),x0,Nat.add_sub_cancel_left]
 ·rw[if_neg h]
  congr 1
  by_cases h2:i≤n∧n<i+k
  ·rw[if_pos h2,if_pos (by omega)]
  ·rw[if_neg h2,if_neg (by omega)]
theorem mulK_end (a b:List UInt8) (n:Nat):mulK a b a.length 0 n=cv (fa a) (fa b) n:=by
 unfold mulK cv;rw[if_neg (show ¬(a.length≤n∧n<a.length+0) by omega),x0]
 have h1: ∀m,a.length≤m→sm (fun j=>if j≤n∧n<j+b.length then gm (fa a j) (fa b (n-j))else 0) m=sm (fun j=>if j≤n∧n<j+b.length then gm (fa a j) (fa b (n-j))else 0) a.length:=fun m hm=>
  sm_more hm (fun i h1 _=>by rw[fa_out h1,zero_gm];split<;>rfl)
 have h2: ∀m,n+1≤m→sm (fun j=>if j≤n∧n<j+b.length then gm (fa a j) (fa b (n-j))else 0) m=sm (fun k=>gm (fa a k) (fa b (n-k))) (n+1):=fun m hm=>by
  rw[sm_more hm (fun i h1 _=>if_neg (by omega))];refine sm_congr (fun k hk=>?_);by_cases h:n<k+b.length
  ·rw[if_pos ⟨by omega,h⟩]
  ·rw[if_neg (fun e=>h e.2),fa_out (l:=b) (by omega),gm_zero]
 rw[←h1 (max a.length (n+1)) (Nat.le_max_left _ _),h2 _ (Nat.le_max_right _ _)]
theorem mulL_len (a b:List UInt8):(mulL a b).length=a.length+b.length:=by simp[mulL]
theorem fa_mul (a b:List UInt8) (n:Nat) (h:n<a.length+b.length):fa (mulL a b) n=cv (fa a) (fa b) n:=fa_in (by simp[mulL,h])
theorem trim_last (l:List UInt8):trimL l=[]∨fa (trimL l) ((trimL l).length-1)≠0:=by
 have key: ∀n,n≤l.length→trimL (l.take n)=[]∨fa (trimL (l.take n)) ((trimL (l.take n)).length-1)≠0:=fun n=>by
  induction n with
  |zero=>intro _;exact Or.inl (by rw[List.take_zero];rfl)
  |succ n ih=>
   intro hn;obtain⟨c,hc⟩: ∃c,l[n]? =some c:=⟨_,List.getElem?_eq_getElem (by omega)⟩;by_cases h0:c=0
   ·rw[(trim_take hc).1 h0]
    exact ih (by omega)
   ·rw[(trim_take hc).2 h0]
    refine Or.inr ?_;rw[fa_in (b:=c) (by rw[List.length_take,Nat.min_eq_left (by omega),Nat.add_sub_cancel,List.getElem?_take_of_lt (by omega)];exact hc)];exact h0
 have:=key l.length (Nat.le_refl _)
 rwa [List.take_length]at this
theorem trim_deg {l:List UInt8} {m:Nat} (h: ∀i,m<i→fa l i=0) (hm:fa l m≠0):(trimL l).length=m+1:=by
 have h1:m<(trimL l).length:=by
  rcases Nat.lt_or_ge m (trimL l).length with h|h
  ·exact h
  ·exact absurd (by rw[←fa_trim];exact fa_out h) hm
 rcases trim_last l with h2|h2
 ·rw[h2]at h1;cases h1
 ·rw[fa_trim]at h2
  rcases Nat.lt_or_ge m ((trimL l).length-1)with h3|h3
  ·exact absurd (h _ h3) h2
  ·omega
theorem trim_zeros {l:List UInt8} (h: ∀i,fa l i=0):trimL l=[]:=by
 rcases trim_last l with h2|h2
 ·exact h2
 ·rw[fa_trim]at h2;exact absurd (h _) h2
theorem cv_two (r s:UInt8) (g:Nat→UInt8) (n:Nat):cv (fa [r,s]) g n=gm r (g n)^^^gm s (up g n):=by
 unfold cv
 cases n with
 |zero=>rw[sm,sm,zx];simp[fa,up]
 |succ n=>
  have h:sm (fun k=>gm (fa [r,s] k) (g (n+1-k))) (n+1+1)=sm (fun k=>gm (fa [r,s] k) (g (n+1-k))) 2:=sm_more (by omega) (fun i h1 _=>by rw[fa_out (by simpa using h1),zero_gm]);rw[h,sm,sm,sm,zx];rfl
theorem cv_up (p:List UInt8) (r:UInt8) (n:Nat):cv (fa p) (fa [r,1]) n=mulr r (fa p) n:=by
 rw[cv_comm,cv_two,one_gm];rfl
theorem fa_mulL (a b:List UInt8) (n:Nat):fa (mulL a b) n=cv (fa a) (fa b) n:=by
 rcases Nat.lt_or_ge n (a.length+b.length)with h|h
 ·exact fa_mul a b n h
 ·rw[fa_out (by rw[mulL_len];exact h)]
  refine(sm_zero (fun i hi=>?_)).symm;rcases Nat.lt_or_ge i a.length with h1|h1
  ·rw[fa_out (l:=b) (by omega),gm_zero]
  ·rw[fa_out h1,zero_gm]
def rootsL (l:List UInt8):List UInt8:=l.foldl (fun p r=>trimL (mulL p [r,1])) [1]
theorem roots_snoc (l:List UInt8) (r:UInt8):rootsL (l++[r])=trimL (mulL (rootsL l) [r,1]):=by unfold rootsL;rw[List.foldl_append];rfl
theorem roots_len (l:List UInt8):(rootsL l).length≤1+2*l.length:=by
 have key: ∀n,n≤l.length→(rootsL (l.take n)).length≤1+2*n:=fun n=>by
  induction n with
  |zero=>intro _;exact Nat.le_refl _
  |succ n ih=>
   intro hn;obtain⟨c,hc⟩: ∃c,l[n]? =some c:=⟨_,List.getElem?_eq_getElem (by omega)⟩;rw[List.take_add_one,hc,Option.toList_some,roots_snoc];have h1:=trim_len (mulL (rootsL (l.take n)) [c,1]);rw[mulL_len]at h1;have h2:=ih (by omega);simp only[List.length_cons,List.length_nil]at h1;omega
 have:=key l.length (Nat.le_refl _)
 rwa [List.take_length]at this
def genL:List UInt8:=rootsL ((List.range 64).map ex)
theorem gen_roots: ∀k:Nat,(∀n,fa (rootsL ((List.range k).map ex)) n=gen k n)∧(rootsL ((List.range k).map ex)).length=k+1
 |0=>by
  refine⟨fun n=>?_,rfl⟩;show fa [1] n=one n;unfold one
  cases n with
  |zero=>rfl
  |succ n=>rw[if_neg (by omega)];exact fa_out (by simp)
 |k+1=>by
  obtain⟨h1,h2⟩:=gen_roots k;rw[List.range_succ,List.map_append,List.map_singleton,roots_snoc]
  have h3: ∀n,fa (mulL (rootsL ((List.range k).map ex)) [ex k,1]) n=gen (k+1) n:=fun n=>by
   rw[fa_mulL,cv_up,gen];unfold mulr up;rw[h1];by_cases h:n=0
   ·rw[if_pos h,if_pos h]
   ·rw[if_neg h,if_neg h,h1]
  refine⟨fun n=>by rw[fa_trim,h3],trim_deg (fun i hi=>by rw[h3];exact gen_deg _ _ hi) (by rw[h3,gen_top];decide)⟩
set_option maxRecDepth 100000
def strN (v:Value):Nat:=match v with| .string t=>t.size|_=>0
theorem rbyte_any (s:ByteArray) (w:World) (hs:s.size≤1099511627776):Calls Tryz.prog 193 #[.string s,.int .u8 0] w fun e w'=>e= .returned (.string (str (trimL (bl s))))∧w=w':=by
 go_enter Tryz.func193,Tryz.ntmps193
 go_wp2_with fail
 go_loop [0] (fun sv=> ∃t:ByteArray,sv= .string t∧t.size≤1099511627776∧Hid (trimL (bl t)=trimL (bl s))) (fun sv=>strN sv)
 case atStart=>exact⟨s,rfl,hs,Lib.hid rfl⟩
 case round=>
  obtain⟨t,rfl,hts,HK⟩:=hrel;by_cases h0:0<t.size
  ·have t0:decide ((0:Int)<(t.size:Int))=true:=decide_eq_true (by omega)
   have t1:decide (0<t.size)=true:=decide_eq_true h0;obtain⟨c,hc,hat⟩:=byte_at t (t.size-1) (by omega)
   have ix: ∀V:World,(Instr.index 9 (.string t) (.int .i64 ((t.size:Int)-1))).run Tryz.prog V= .ok (.int .u8 (c.toNat:Int)) V:=fun V=>by
    rw[show(t.size:Int)-1=((t.size-1:Nat):Int) by omega,idx_at t (t.size-1) (by omega) V,hat]
   have HT:=Lib.hid (trim_take hc);have HL:=Lib.hid (show(bl t).take (t.size-1+1)=bl t by rw[show t.size-1+1=t.size by omega,←bl_len,List.take_length]);have HE:=Lib.hid (show bl (t.extract 0 (t.size-1))=(bl t).take (t.size-1) by rw[ext_bl];simp);have HS:=Lib.hid (show(t.extract 0 (t.size-1)).size=t.size-1 by rw[ByteArray.size_extract];omega);by_cases hz:c=0
   ·have t2:((c.toNat:Int)==0)=true:=by rw[hz];rfl
    clear hc hat
    go_wp2_with fail
    go_round
    case rel=>exact⟨_,rfl,by rw[HS.out];omega,Lib.hid (by rw[HE.out,←HT.out.1 hz,HL.out,HK.out])⟩
    case measure=>simp[strN,HS.out];omega
   ·have t2:((c.toNat:Int)==0)=false:=beq_eq_false_iff_ne.2 (fun e=>hz (UInt8.toNat_inj.1 (by simpa using e)))
    clear hc hat
    go_wp2_with fail
    go_ret;refine⟨?_,rfl⟩;rw[←HK.out,←HL.out,HT.out.2 hz,HL.out,str_bl];rfl
  ·have t0:decide ((0:Int)<(t.size:Int))=false:=decide_eq_false (by omega)
   have t1:decide (0<t.size)=false:=decide_eq_false h0
   go_wp2_with fail
   go_ret;refine⟨?_,rfl⟩;have hn:t=nob:=bl_inj (List.eq_nil_of_length_eq_zero (by rw[bl_len];omega));rw[←HK.out,hn];rfl
theorem right_any (s:ByteArray) (w:World) (hs:s.size≤1099511627776):Calls Tryz.prog 192 #[.string s,.string ⟨#[0]⟩] w fun e w'=>e= .returned (.string (str (trimL (bl s))))∧w=w':=by
 have k:=rbyte_any s w hs;have ix: ∀V:World,(Instr.index 9 (.string ⟨#[0]⟩) (.int .i64 0)).run Tryz.prog V= .ok (.int .u8 0) V:=fun V=>by kernel_rfl
 by_cases h0:s.size=0
 ·have hn:s=nob:=bl_inj (List.eq_nil_of_length_eq_zero (by rw[bl_len];exact h0))
  subst hn;clear k ix
  go_enter Tryz.func192,Tryz.ntmps192
  go_wp2_with fail
  go_ret;exact⟨rfl,rfl⟩
 ·have t0:s.toList.isEmpty=false:=by rw[isEmpty_iff];simpa using h0
  go_enter Tryz.func192,Tryz.ntmps192
  go_wp2_with fail
  (with_reducible refine(k).mono ?_);rintro e W1 ⟨rfl,rfl⟩
  go_wp2_with fail
  go_ret;exact⟨rfl,rfl⟩
theorem trim_any (s:ByteArray) (w:World) (hs:s.size≤1099511627776):Calls Tryz.prog 190 #[.string s] w fun e w'=>e= .returned (.string (str (trimL (bl s))))∧w=w':=by
 have k:=right_any s w hs
 go_enter Tryz.func190,Tryz.ntmps190
 go_wp2_with fail
 (with_reducible refine(k).mono ?_);rintro e W1 ⟨rfl,rfl⟩
 go_wp2_with fail
 go_ret;exact⟨rfl,rfl⟩
theorem xor_g (a b:UInt8):bits .xor .u8 (a.toNat:Int) (b.toNat:Int)=(((a^^^b).toNat:Nat):Int):=by rw[xor_u8,UInt8.toNat_xor]
theorem ix_of {s:ByteArray} {i:Nat} {c:UInt8} (h:(bl s)[i]? =some c) (V:World):(Instr.index 9 (.string s) (.int .i64 (i:Int))).run Tryz.prog V= .ok (.int .u8 (c.toNat:Int)) V:=by
 have hi:i<s.size:=by rw[←bl_len];exact(List.getElem?_eq_some_iff.1 h).1
 rw[idx_at s i hi V,at_of h]
theorem conv_fm {w:World} {g n:Nat} {t:TypeId} {F:Nat→UInt8} (h:Fm w g t n (fun i=>u8v (F i))) (c:Nat):(convert 90 9 (.slice (some ⟨g,0,none⟩) n c)).run Tryz.prog w= .ok (.string (str ((List.range n).map F))) w:=by
 have:=run_convert_bytes_arg (P:=Tryz.prog) w 90 5 Tryz.underlying90 Tryz.underlying5 g 0 n c ((List.range n).map fun i=>((F i).toNat:Int)) (by simp) (fun i hi=>by
  rw[Nat.zero_add,h.cell i hi];simp[u8v,hi]) 9 Tryz.underlying9
 rw[this,nums_str]
 congr 3
 simp
theorem fm_zero (w:World) (n g:Nat) (hg:g=w.heap.size):Fm (w.alloc (.cells (rowB [] n) 5)) g 5 n (fun _=>u8v 0):=by
 refine⟨rowB [] n,Blk.newAt w _ _ hg,by simp[rowB,u8s],fun i hi=>?_⟩;simp[rowB,u8s,hi];rfl
set_option maxHeartbeats 3200000 in
theorem mul_any (a b:ByteArray) (w:World) (ha:a.size≤1000) (hb:b.size≤1000):Calls Tryz.prog 186 #[.string a,.string b] w fun e w'=>e= .returned (.string (str (trimL (mulL (bl a) (bl b)))))∧Below w.heap.size w w':=by
 have kn:=new_any w;have hmk:=mk_bytes (a.size+b.size) (by omega);rw[show((a.size+b.size:Nat):Int)=(a.size:Int)+(b.size:Int) by omega]at hmk;have s0:(0:Int)≤(a.size:Int):=Int.natCast_nonneg _;have s1:(0:Int)≤(b.size:Int):=Int.natCast_nonneg _;have s2:(a.size:Int)≤1000:=by omega
 have s3:(b.size:Int)≤1000:=by omega
 go_enter Tryz.func186,Tryz.ntmps186
 go_wp2_with fail
 (with_reducible refine(kn).mono ?_);rintro e1 W1 ⟨rfl,hF1,hb1⟩
 obtain⟨g,hg⟩: ∃g,w.heap.size=g:=⟨_,rfl⟩;rw[hg]at hF1 hb1 ⊢;obtain⟨g2,hg2⟩: ∃g2,W1.heap.size=g2:=⟨_,rfl⟩;have hlt:=Fm.lt hF1;rw[hg2]at hlt;have hF2:Fld (W1.alloc (.cells (rowB [] (a.size+b.size)) 5)) g:=Fm.alloc hF1 (.cells (rowB [] (a.size+b.size)) 5);have hO2:=(fm_zero W1 (a.size+b.size) g2 hg2.symm).congr (f':=fun n=>u8v (mulK (bl a) (bl b) 0 0 n)) (fun i _=>by rw[mulK_zero]);have hb2:=hb1.alloc (by omega) (.cells (rowB [] (a.size+b.size)) 5);have hm2:=hmk W1;rw[hg2]at hm2;clear kn hF1 hmk hb1
 go_wp2_with fail
 go_loopw [18] (fun iv W=> ∃i:Nat,i≤a.size∧iv= .int .i64 i∧Fld W g∧Fm W g2 5 (a.size+b.size) (fun n=>u8v (mulK (bl a) (bl b) i 0 n))∧Below g w W) (fun iv _=>a.size-(intOf iv).toNat)
 case atStart=>exact⟨0,by omega,rfl,hF2,hO2,hb2⟩
 case round=>
  obtain⟨i,hi,rfl,hF,hO,hbe⟩:=hrel;have i0:(0:Int)≤(i:Int):=Int.natCast_nonneg _;by_cases hin:i<a.size
  ·have t0:decide ((i:Int)<(a.size:Int))=true:=decide_eq_true (by omega)
   have t0':decide (i<a.size)=true:=decide_eq_true hin;obtain⟨x,hx⟩: ∃x,(bl a)[i]? =some x:=⟨_,List.getElem?_eq_getElem (by rw[bl_len];exact hin)⟩;have ia:=ix_of hx;have HX:=Lib.hid (fa_in hx);clear hx hF2 hO2 hb2 hm2
   go_wp2_with fail
   go_loopw [23] (fun kv W=> ∃k:Nat,k≤b.size∧kv= .int .i64 k∧Fld W g∧Fm W g2 5 (a.size+b.size) (fun n=>u8v (mulK (bl a) (bl b) i k n))∧Below g w W) (fun kv _=>b.size-(intOf kv).toNat)
   case atStart=>exact⟨0,by omega,rfl,hF,hO,hbe⟩
   case round=>
    clear hF hO hbe;obtain⟨k,hk,rfl,hF,hO,hbe⟩:=hrel;have k0:(0:Int)≤(k:Int):=Int.natCast_nonneg _;by_cases hkn:k<b.size
    ·have t1:decide ((k:Int)<(b.size:Int))=true:=decide_eq_true (by omega)
     have t1':decide (k<b.size)=true:=decide_eq_true hkn;obtain⟨y,hy⟩: ∃y,(bl b)[k]? =some y:=⟨_,List.getElem?_eq_getElem (by rw[bl_len];exact hkn)⟩;have ib:=ix_of hy;have c0:=fun p=>(Fm.ext hO p).cell (i+k) (by omega);have c1:=fun p=>(Fm.ext hO p).frozen (i+k);obtain⟨m,hm⟩: ∃m,mulK (bl a) (bl b) i k (i+k)=m:=⟨_,rfl⟩;rw[hm,u8v]at c0;have qx:=xor_g m (gm x y);have HM:=Lib.hid (mulK_step (bl a) (bl b) i k);rw[HX.out,fa_in hy,hm]at HM;have j1:(i:Int)+(k:Int)<(a.size:Int)+(b.size:Int):=by omega
     clear hm hy
     go_wp2_with fail
     refine Go.Proofs.YtibjkhepedfpiaaGreatDoor.Rg.region_new [(13,val (.int .u8 ((gm x y).toNat:Int)))] 16 (by kernel_rfl) (by kernel_rfl) (by kernel_rfl) (lk_cons val_inh lk_nil) (lk_cons val_mono lk_nil) ?_;intro σ hσ;simp only[List.take_succ_cons,List.take_zero,List.drop_succ_cons,List.drop_zero];have hs13:σ 13= .int .u8 ((gm x y).toNat:Int):=hσ 13 _ rfl;refine Go.Proofs.YtibjkhepedfpiaaGreatDoor.Rg.wpN_take 13 (by kernel_rfl) (by kernel_rfl) (by kernel_rfl) ?_;simp only[List.take_succ_cons,List.take_zero,List.drop_succ_cons,List.drop_zero]
     repeat (go_big_quiet_step (fail))
     refine wpQuiet_nil ?_;refine wpN_sp _ rfl (by kernel_rfl) (spAt_val (f:=166) (args:= #[.pointer (some ⟨g,0,none⟩),.int .u8 (x.toNat:Int),.int .u8 (y.toNat:Int)]) (by intro w0;go_simp) (fun p _=>GfA.mul_any _ g x y (Fm.ext hF p))) ?_;simp only[Act.put,List.setIfInBounds_toArray,List.set_cons_zero,List.set_cons_succ];rw[hs13];refine Go.Proofs.YtibjkhepedfpiaaGreatDoor.Rg.wpN_take 2 (by kernel_rfl) (by kernel_rfl) (by kernel_rfl) ?_;simp only[List.take_succ_cons,List.take_zero,List.drop_succ_cons,List.drop_zero]
     repeat (go_big_quiet_step (fail))
     refine wpQuiet_nil ?_;refine wpN_nil ?_;rintro w9 ⟨pq,rfl⟩ _;have d0:=c0 pq;have d1:=c1 pq;have hF9:Fld ((ext wr pq).setCell ⟨g2,i+k,none⟩ (.int .u8 ((m^^^gm x y).toNat:Int))) g:=Fm.far (Fm.ext hF pq) (by show g≠g2;omega) _
     have hO9:=((Fm.ext hO pq).put (i+k) (.int .u8 ((m^^^gm x y).toNat:Int))).congr (f':=fun n=>u8v (mulK (bl a) (bl b) i (k+1) n)) (fun n _=>by
      rw[←HM.out]
      split<;>rfl)
     have hb9:Below g w ((ext wr pq).setCell ⟨g2,i+k,none⟩ (.int .u8 ((m^^^gm x y).toNat:Int))):=(hbe.trans ((below_ext wr pq).mono (by have:=hF.lt;omega))).setCell (by show g≤g2;omega) _;have H9:=Lib.hid (And.intro hF9 (And.intro hO9 hb9));clear hF hO hbe hF9 hO9 hb9 c0 c1 hσ hs13
     go_wp2_with fail
     go_roundw
     case rel=>exact⟨k+1,by omega,by go_num,H9.out.1,H9.out.2.1,H9.out.2.2⟩
     case measure=>simp[intOf];omega
    ·obtain rfl:k=b.size:=by omega
     have t1:decide ((b.size:Int)<(b.size:Int))=false:=decide_eq_false (by omega);have t1':decide (b.size<b.size)=false:=decide_eq_false (by omega)
     go_wp2_with fail
     go_roundw
     case rel=>exact⟨i+1,by omega,by go_num,hF,hO.congr (fun n _=>by rw[←mulK_row,bl_len]),hbe⟩
     case measure=>simp[intOf];omega
  ·obtain rfl:i=a.size:=by omega
   have t0:decide ((a.size:Int)<(a.size:Int))=false:=decide_eq_false (by omega);have t0':decide (a.size<a.size)=false:=decide_eq_false (by omega);have kc:=conv_fm hO (a.size+b.size);have kt:=fun V=>trim_any (str ((List.range (a.size+b.size)).map (mulK (bl a) (bl b) a.size 0))) V (by rw[str_size];simp;omega);rw[bl_str]at kt
   rw[show(List.range (a.size+b.size)).map (mulK (bl a) (bl b) a.size 0)=mulL (bl a) (bl b)from by
    unfold mulL;rw[bl_len,bl_len];exact List.map_congr_left (fun n _=>mulK_end (bl a) (bl b) n)]at kt kc
   go_wp2_with fail
   (with_reducible refine(kt _).mono ?_);rintro e2 W2 ⟨rfl,rfl⟩
   go_wp2_with fail
   go_ret;exact⟨rfl,by rw[hg];exact hbe⟩
theorem conv_two (V:World) (x:UInt8) (g:Nat) (hg:g=V.heap.size):(convert 90 9 (.slice (some ⟨g,0,none⟩) 2 2)).run Tryz.prog (V.alloc (.cells #[.int .u8 (x.toNat:Int),.int .u8 1] 5))= .ok (.string (str [x,1])) (V.alloc (.cells #[.int .u8 (x.toNat:Int),.int .u8 1] 5)):=by
 have:=conv_new V [(x.toNat:Int),1] 2 g #[.int .u8 (x.toNat:Int),.int .u8 1] rfl rfl hg;rw[this,nums_str]
 congr 3
 simp
set_option maxHeartbeats 3200000 in
theorem roots_any (l:ByteArray) (w:World) (hl:l.size≤400):Calls Tryz.prog 177 #[.string l] w fun e w'=>e= .returned (.string (str (rootsL (bl l))))∧Below w.heap.size w w':=by
 have s0:(0:Int)≤(l.size:Int):=Int.natCast_nonneg _;have s1:(l.size:Int)≤400:=by omega
 go_enter Tryz.func177,Tryz.ntmps177
 go_wp2_with fail
 go_loopw [3,7] (fun pv iv W=> ∃i:Nat,i≤l.size∧iv= .int .i64 i∧pv= .string (str (rootsL ((bl l).take i)))∧Below w.heap.size w W) (fun _ iv _=>l.size-(intOf iv).toNat)
 case atStart=>exact⟨0,by omega,rfl,rfl,Below.refl _ _⟩
 case round=>
  obtain⟨i,hi,rfl,rfl,hb⟩:=hrel;have i0:(0:Int)≤(i:Int):=Int.natCast_nonneg _;by_cases hin:i<l.size
  ·have t0:decide ((i:Int)<(l.size:Int))=true:=decide_eq_true (by omega)
   have t0':decide (i<l.size)=true:=decide_eq_true hin;obtain⟨x,hx⟩: ∃x,(bl l)[i]? =some x:=⟨_,List.getElem?_eq_getElem (by rw[bl_len];exact hin)⟩;have ia:=ix_of hx;have HR:=Lib.hid (show rootsL ((bl l).take (i+1))=trimL (mulL (rootsL ((bl l).take i)) [x,1]) by rw[List.take_add_one,hx,Option.toList_some,roots_snoc]);have hrl:=roots_len ((bl l).take i);rw[List.length_take,bl_len,Nat.min_eq_left (by omega)]at hrl;have hcv:=conv_two wr x wr.heap.size rfl;have hb2:=hb.alloc hb.size (.cells #[.int .u8 (x.toNat:Int),.int .u8 1] 5);have km:=fun V=>mul_any (str (rootsL ((bl l).take i))) (str [x,1]) V (by rw[str_size];omega) (by rw[str_size];simp);rw[bl_str,bl_str,←HR.out]at km;clear hx hrl hb
   go_wp2_with fail
   (with_reducible refine(km _).mono ?_);rintro e W1 ⟨rfl,hb1⟩
   have hb3:=hb2.trans (hb1.mono hb2.size)
   go_wp2_with fail
   go_roundw
   case rel=>exact⟨i+1,by omega,by go_num,rfl,hb3⟩
   case measure=>simp[intOf];omega
  ·obtain rfl:i=l.size:=by omega
   have t0:decide ((l.size:Int)<(l.size:Int))=false:=decide_eq_false (by omega);have t0':decide (l.size<l.size)=false:=decide_eq_false (by omega);rw[show(bl l).take l.size=bl l by rw[←bl_len,List.take_length]]
   go_wp2_with fail
   go_ret;exact⟨rfl,hb⟩
end Go.Proofs.YtibjkhepedfpiaaGreatDoor.PoA
namespace Go.Proofs.YtibjkhepedfpiaaGreatDoor.RsA
open Go Go.RowKit Q Mem Rg Ap St BiW BiG CrB SeEq TbM TbQ GfP PoP RsP GfA PoA
set_option maxRecDepth 100000
set_option maxHeartbeats 1600000 in
theorem gener_any (w:World):Calls Tryz.prog 165 #[] w fun e w'=>e= .returned (.string (str genL))∧Below w.heap.size w w':=by
 have kn:=GfA.new_any w
 go_enter Tryz.func165,Tryz.ntmps165
 go_wp2_with fail
 (with_reducible refine(kn).mono ?_);rintro e W1 ⟨rfl,hF1,hb1⟩
 obtain⟨g,hg⟩: ∃g,w.heap.size=g:=⟨_,rfl⟩;rw[hg]at hF1 hb1 ⊢;clear kn
 go_wp2_with fail
 go_loopw [2,5] (fun ov kv W=> ∃k:Nat,k≤64∧kv= .int .i64 k∧Fld W g∧W.ownsRow (g+1) 5 1 ov k (u8s ((List.range k).map ex))∧Below g w W∧g+1≤W.heap.size) (fun _ kv _=>64-(intOf kv).toNat)
 case atStart=>exact⟨0,by omega,rfl,hF1,World.ownsRow_nil _ _ _ _,hb1,hF1.lt⟩
 case round=>
  obtain⟨k,hk,rfl,hF,hown,hb,hsz⟩:=hrel;have k0:(0:Int)≤(k:Int):=Int.natCast_nonneg _;by_cases hkn:k<64
  ·have t0:decide ((k:Int)<64)=true:=decide_eq_true (by omega)
   have kx:=exp_any wr g k hF (by omega);have hb9:=Blk.new wr 5 #[.int .u8 ((ex k).toNat:Int)];have hown2:=own_below hown ((Below.refl wr.heap.size wr).alloc (Nat.le_refl _) (.cells #[.int .u8 ((ex k).toNat:Int)] 5));have hF2:Fld (wr.alloc (.cells #[.int .u8 ((ex k).toNat:Int)] 5)) g:=Fm.alloc hF _;have hsz2:g+1≤(wr.alloc (.cells #[.int .u8 ((ex k).toNat:Int)] 5)).heap.size:=by simp;omega
   have hb2:=hb.alloc (by omega) (.cells #[.int .u8 ((ex k).toNat:Int)] 5);have HS:=Lib.hid (show u8s ((List.range (k+1)).map ex)=u8s ((List.range k).map ex)++[.int .u8 ((ex k).toNat:Int)] by simp[List.range_succ,u8s,u8v]);clear hown hb hF hF1 hb1
   go_wp2_with fail
   (with_reducible refine(kx).mono ?_);rintro e2 W2 ⟨rfl,rfl⟩
   clear kx
   go_wp2_with (at_builtin;refine wpList_app rfl _ _ rfl elemB rfl hown2 rfl rfl (blk_news hb9) (by simp[Value.oneCell']) (by omega) (by unfold maxLen;omega) hsz2 ?_)
   intro v9 w8 hown9 hb8;have hF3:=hF2.below hb8 (by omega);have hb3:=hb2.trans (hb8.mono (by omega));have hsz8:=Nat.le_trans hsz2 hb8.size;clear hown2 hb9 hb2 hb8 hF2
   go_wp2_with fail
   go_roundw
   case rel=>exact⟨k+1,by omega,by go_num,hF3,by rw[HS.out];exact hown9,hb3,hsz8⟩
   case measure=>simp[intOf];omega
  ·obtain rfl:k=64:=by omega
   have t0:decide (((64:Nat):Int)<64)=false:=by decide
   obtain⟨a1,c1,rfl⟩:=own_form hown;have kc:=own_u8 hown (by simp);have kr:=fun V=>roots_any (str ((List.range 64).map ex)) V (by rw[str_size];simp);rw[bl_str]at kr;have HG:=Lib.hid (show genL=rootsL ((List.range 64).map ex)from rfl);rw[←HG.out]at kr;obtain⟨q,hq⟩: ∃q,str ((List.range 64).map ex)=q:=⟨_,rfl⟩;rw[hq]at kc kr;clear hq;clear hown hF hF1 hb1
   go_wp2_with fail
   (with_reducible refine(kr _).mono ?_);rintro e2 W2 ⟨rfl,hb2⟩
   have hb3:=hb.trans (hb2.mono (by omega))
   go_wp2_with fail
   go_ret;exact⟨rfl,by rw[hg];exact hb3⟩
def z64:Array Value:=Array.replicate 64 (.int .u8 0)
theorem idx_64 (cs:Array Value) (c:Nat) (b:UInt8) (hc:c<64) (h:cs[c]? =some (.int .u8 (b.toNat:Int))) (V:World):(Instr.index 276 (.agg cs) (.int .i64 (c:Int))).run Tryz.prog V= .ok (.int .u8 (b.toNat:Int)) V:=by
 have h1:(0:Int)≤(c:Int)∧(c:Int)<((64:Nat):Int):=by omega
 simp[Instr.index,run_underlying Tryz.underlying276,asIntOf,h1,part,go_sem,h,Tryz.isAgg5,Tryz.sizeOf5,Sem.run_bind];omega
def tapF (i k:Nat):UInt8:=if k<i then gen 64 (63-k)else 0
theorem tap_step (i k:Nat):(if k=i then u8v (gen 64 (63-i))else u8v (tapF i k))=u8v (tapF (i+1) k):=by
 unfold tapF;by_cases h:k=i
 ·rw[if_pos h,if_pos (by omega),h]
 ·rw[if_neg h]
  by_cases h2:k<i
  ·rw[if_pos h2,if_pos (by omega)]
  ·rw[if_neg h2,if_neg (by omega)]
theorem genL_at (i:Nat) (h:i<65):(bl (str genL))[i]? =some (gen 64 i):=by
 obtain⟨h1,h2⟩:=gen_roots 64;rw[bl_str];have h3:genL[i]? =some (genL[i]'(by rw[show genL.length=65 from h2];exact h)):=List.getElem?_eq_getElem _;rw[h3,←h1 i,←show genL=rootsL ((List.range 64).map ex)from rfl,fa_in h3]
theorem fm_z64 (w:World) (g:Nat) (hg:g=w.heap.size) (F:Nat→UInt8) (hF: ∀k,F k=0):Fm (w.alloc (.cells z64 276)) g 276 64 (fun k=>u8v (F k)):=by
 refine⟨z64,Blk.newAt w _ _ hg,by simp[z64],fun i hi=>?_⟩;simp[z64,hi,hF];rfl
def moveF (F:Nat→UInt8) (k:Nat):UInt8:=if k<63 then F (k+1)else F 63
theorem fm_kept {w w':World} {g n:Nat} {t:TypeId} {f:Nat→Value} {F:Nat→Prop} (h:Fm w g t n f) (k:Kept F w w') (hn: ¬F g):Fm w' g t n f:=h.same (k.block g h.lt hn)
theorem copy_reg (w:World) (g:Nat) (F:Nat→UInt8) (h:Fm w g 276 64 (fun k=>u8v (F k))): ∃w',Fm w' g 276 64 (fun k=>u8v (moveF F k))∧Kept (fun j=>j=g) w w'∧
 (Builtin.copy_ #[90,90] 3 #[.slice (some ⟨g,0,none⟩) 64 64,.slice (some ⟨g,1,none⟩) 63 63]).run Tryz.prog w= .ok (goInt 63) w':=by
 obtain⟨cur,h1,h2,h3⟩:=h
 have hcs: ∀j v,((List.range 63).map fun k=>u8v (F (k+1)))[j]? =some v→w.cell? ((⟨g,1,none⟩:Addr).add j)=some v:=fun j v hj=>by
  have hjl:j<63:=by have:=(List.getElem?_eq_some_iff.1 hj).1;simpa using this
  have hadd:(⟨g,1,none⟩:Addr).add j=⟨g,1+j,none⟩:=by unfold Addr.add;split<;>simp_all
  rw[hadd,cell_of_row w g (1+j) cur _ _ h1,h3 (1+j) (by omega),←hj];simp[hjl,Nat.add_comm 1 j]
 have hr:=run_copy_row (P:=Tryz.prog) w 90 90 3 5 g 0 64 64 ⟨g,1,none⟩ 63 63 cur 276 ((List.range 63).map fun k=>u8v (F (k+1))) Tryz.underlying90 (by kernel_rfl) h1 (by simp) hcs (by simp;omega) (fun v hv=>by
  obtain⟨k,_,rfl⟩:=List.mem_map.1 hv;rfl)
 refine⟨w.setRow g ((List.range 63).map (fun k=>u8v (F (k+1)))++cur.toList.drop 63).toArray,⟨_,setRow_heap w g cur _ _ _ h1,?_,fun i hi=>?_⟩,?_,by rw[hr];simp⟩
 ·simp;omega
 ·show _=some (u8v (moveF F i))
  rw[List.getElem?_toArray];unfold moveF;by_cases h:i<63
  ·rw[List.getElem?_append_left (by simpa using h),if_pos h]
   simp[h]
  ·rw[List.getElem?_append_right (by simpa using h),if_neg h]
   obtain rfl:i=63:=by omega
   simp;exact h3 63 (by omega)
 ·exact⟨rfl,rfl,rfl,by simp[World.setRow],fun i _ hn=>by simp[World.setRow,Array.getElem?_modify,Ne.symm hn]⟩
def shF (R:Nat→UInt8) (k:Nat):UInt8:=if k<63 then R (k+1)else 0
def sumF (R:Nat→UInt8) (x:UInt8) (j k:Nat):UInt8:=shF R k^^^(if k<j then gm x (gen 64 (63-k))else 0)
theorem sum_zero (R:Nat→UInt8) (x:UInt8) (k:Nat) (hk:k<64):(if k=63 then u8v 0 else u8v (moveF R k))=u8v (sumF R x 0 k):=by
 unfold sumF moveF shF;rw[if_neg (show ¬k<0 by omega),x0];by_cases h:k=63
 ·rw[if_pos h,if_neg (by omega)]
 ·rw[if_neg h,if_pos (by omega),if_pos (by omega)]
theorem sum_step (R:Nat→UInt8) (x:UInt8) (j k:Nat):(if k=j then u8v (sumF R x j j^^^gm x (gen 64 (63-j)))else u8v (sumF R x j k))=u8v (sumF R x (j+1) k):=by
 unfold sumF;by_cases h:k=j
 ·rw[if_pos h,h,if_neg (show ¬j<j by omega),if_pos (show j<j+1 by omega),x0]
 ·rw[if_neg h]
  by_cases h2:k<j
  ·rw[if_pos h2,if_pos (by omega)]
  ·rw[if_neg h2,if_neg (by omega)]
theorem sum_end (R:Nat→UInt8) (d:UInt8) (k:Nat) (hk:k<64):sumF R (d^^^R 0) 64 k=stepR R d k:=by
 unfold sumF stepR;rw[if_pos hk];rfl
theorem sum_none (R:Nat→UInt8) (d:UInt8) (h:d^^^R 0=0) (k:Nat):sumF R (d^^^R 0) 0 k=stepR R d k:=by
 unfold sumF stepR;rw[h,zero_gm,if_neg (by omega)];rfl
set_option maxHeartbeats 6400000 in
theorem encode_any (d:ByteArray) (w:World) (hd:d.size=191):Calls Tryz.prog 148 #[.string d] w fun e w'=>e= .returned (.tuple #[.string (str (enc (bl d))),.int .i64 0])∧Below w.heap.size w w':=by
 have kn:=GfA.new_any w;have t0:((d.size:Int)==191)=true:=by rw[hd];rfl
 have t0':((d.size:Int)!=191)=false:=by rw[hd];rfl
 have HD:=Lib.hid hd;have hz: ∀V:World,(zeroValue 276).run Tryz.prog V= .ok (.agg z64) V:=fun V=>by kernel_rfl
 clear hd
 go_enter Tryz.func148,Tryz.ntmps148
 go_wp2_with fail
 refine Scp.wp_scope_one 0 (fun _ _=>False) (fun _ _=>0) rfl (fun _ _ h=>h.elim) (fun _=>?_)
 go_wp2_with fail
 (with_reducible refine(kn).mono ?_);rintro e W1 ⟨rfl,hF1,hb1⟩
 obtain⟨g,hg⟩: ∃g,w.heap.size=g:=⟨_,rfl⟩;rw[hg]at hF1 hb1 ⊢;have kg:=gener_any W1;clear kn
 go_wp2_with fail
 (with_reducible refine(kg).mono ?_);rintro e2 W2 ⟨rfl,hb2⟩
 have hF2:=hF1.be hb2;have hlt:=hF1.lt;have hb3:=hb1.trans (hb2.mono (by omega));clear kg hF1 hb1 hb2 hlt;obtain⟨gt,hgt⟩: ∃gt,W2.heap.size=gt:=⟨_,rfl⟩;have hA1:=fm_z64 W2 gt hgt.symm (tapF 0) (fun k=>by unfold tapF;exact if_neg (by omega));have hF3:Fld (W2.alloc (.cells z64 276)) g:=Fm.alloc hF2 _;have hlt:=hF2.lt;rw[hgt]at hlt;have hb4:=hb3.alloc (by omega) (.cells z64 276);clear hF2 hb3
 go_wp2_with fail
 go_loopw [18] (fun kv W=> ∃k:Nat,k≤64∧kv= .int .i64 k∧Fld W g∧Fm W gt 276 64 (fun j=>u8v (tapF k j))∧Below g w W) (fun kv _=>64-(intOf kv).toNat)
 case atStart=>exact⟨0,by omega,rfl,hF3,hA1,hb4⟩
 case round=>
  clear hF3 hA1 hb4;obtain⟨k,hk,rfl,hF,hA,hb⟩:=hrel;have k0:(0:Int)≤(k:Int):=Int.natCast_nonneg _;by_cases hkn:k<64
  ·have r0:decide ((k:Int)<64)=true:=decide_eq_true (by omega)
   have ix: ∀V:World,(Instr.index 9 (.string (str genL)) (.int .i64 (63-(k:Int)))).run Tryz.prog V= .ok (.int .u8 ((gen 64 (63-k)).toNat:Int)) V:=fun V=>by
    rw[show 63-(k:Int)=((63-k:Nat):Int) by omega];exact ix_of (genL_at (63-k) (by omega)) V
   have c0:=hA.cell k (by omega);have c1:=hA.frozen k;have k1:(k:Int)<64:=by omega
   have hA2:=(hA.put k (.int .u8 ((gen 64 (63-k)).toNat:Int))).congr (f':=fun j=>u8v (tapF (k+1) j)) (fun j _=>by
    rw[←tap_step]
    split
    ·rfl
    ·rfl)
   have hF4:Fld (wr.setCell ⟨gt,k,none⟩ (.int .u8 ((gen 64 (63-k)).toNat:Int))) g:=Fm.far hF (by show g≠gt;omega) _;have hb5:Below g w (wr.setCell ⟨gt,k,none⟩ (.int .u8 ((gen 64 (63-k)).toNat:Int))):=hb.setCell (by show g≤gt;omega) _;have H:=Lib.hid (And.intro hF4 (And.intro hA2 hb5));obtain⟨q,hq⟩: ∃q,str genL=q:=⟨_,rfl⟩;rw[hq]at ix ⊢;obtain⟨x,hx⟩: ∃x,(gen 64 (63-k)).toNat=x:=⟨_,rfl⟩;rw[hx]at ix H;clear hF4 hA2 hb5 hF hA hb hx
   go_wp2_with fail
   go_roundw
   case rel=>exact⟨k+1,by omega,by go_num,H.out.1,H.out.2.1,H.out.2.2⟩
   case measure=>simp[intOf];omega
  ·obtain rfl:k=64:=by omega
   have r0:decide (((64:Nat):Int)<64)=false:=by decide
   have hR0:=fm_z64 wr wr.heap.size rfl (encR ((bl d).take 0)) (fun k=>rfl);have hF4:Fld (wr.alloc (.cells z64 276)) g:=Fm.alloc hF _;have hA4:=Fm.alloc hA (.cells z64 276);obtain⟨gr,hgr⟩: ∃gr,wr.heap.size=gr:=⟨_,rfl⟩;rw[hgr]at hR0;have hlt2:=hA.lt;rw[hgr]at hlt2;have hb4:=hb.alloc (by omega) (.cells z64 276);clear hF hA hb
   go_wp2_with fail
   apply wp_label
   go_wp2_with fail
   go_loopw [30] (fun iv W=> ∃i:Nat,i≤d.size∧iv= .int .i64 i∧Fld W g∧Fm W gt 276 64 (fun j=>u8v (tapF 64 j))∧Fm W gr 276 64 (fun k=>u8v (encR ((bl d).take i) k))∧Below g w W) (fun iv _=>d.size-(intOf iv).toNat)
   case atStart=>exact⟨0,by omega,rfl,hF4,hA4,hR0,hb4⟩
   case round=>
    clear hF4 hA4 hR0 hb4;obtain⟨i,hi,rfl,hF,hA,hR,hb⟩:=hrel;have i0:(0:Int)≤(i:Int):=Int.natCast_nonneg _;by_cases hin:i<d.size
    ·have t1:decide ((i:Int)<(d.size:Int))=true:=decide_eq_true (by omega)
     have t1':decide (i<d.size)=true:=decide_eq_true hin;have i1:(i:Int)<191:=by have:=HD.out;omega
     obtain⟨y,hy⟩: ∃y,(bl d)[i]? =some y:=⟨_,List.getElem?_eq_getElem (by rw[bl_len];exact hin)⟩;have iy:=ix_of hy;have HE:=Lib.hid (show encR ((bl d).take (i+1))=stepR (encR ((bl d).take i)) y by rw[List.take_add_one,hy,Option.toList_some,encR_snoc]);obtain⟨R,hRR⟩: ∃R,encR ((bl d).take i)=R:=⟨_,rfl⟩;rw[hRR]at hR HE;have c0:=fun p=>(Fm.ext hR p).cell 0 (by omega);rw[u8v]at c0;have qx:=xor_g y (R 0);obtain⟨x,hx⟩: ∃x,y^^^R 0=x:=⟨_,rfl⟩;have HSE:=Lib.hid (And.intro (sum_end R y) (sum_none R y));rw[hx]at qx HSE;clear hy hRR hx
     go_wp2_with fail
     refine Go.Proofs.YtibjkhepedfpiaaGreatDoor.Q.region_ext (by kernel_rfl) (by kernel_rfl) ?_
     repeat (go_big_quiet_step (fail))
     refine wpQuiet_nil ?_;rintro w9 ⟨pq,rfl⟩;have hF1:=Fm.ext hF pq;have hA1:=Fm.ext hA pq;have hR1:=Fm.ext hR pq;have hb1:=hb.trans ((below_ext wr pq).mono (by have:=hF.lt;omega));obtain⟨W1,hW1⟩: ∃W1,ext wr pq=W1:=⟨_,rfl⟩;rw[hW1]at hF1 hA1 hR1 hb1 ⊢;clear hF hA hR hb c0 hW1
     go_wp2_with fail
     refine Go.Proofs.YtibjkhepedfpiaaGreatDoor.Q.region_ext_tail 2 (by kernel_rfl) (by kernel_rfl) ?_;simp only[List.take_succ_cons,List.take_zero,List.drop_succ_cons,List.drop_zero]
     repeat (go_big_quiet_step (fail))
     refine wpQuiet_nil ?_;rintro w9 ⟨pq,rfl⟩;obtain⟨W3,hR3,hk3,hcp⟩:=copy_reg (ext W1 pq) gr R (Fm.ext hR1 pq);have hF3:=fm_kept (Fm.ext hF1 pq) hk3 (by show g≠gr;omega);have hA3:=fm_kept (Fm.ext hA1 pq) hk3 (by show gt≠gr;omega);have hb3:=(hb1.trans ((below_ext W1 pq).mono (by have:=hF1.lt;omega))).trans (hk3.be (B:=g) (by have:=hF3.lt;have:=hk3.size;have:=(below_ext W1 pq).size;have:=hF1.lt;omega) (fun i hi=>by omega));have c3:=hR3.cell 63 (by omega);have c4:=hR3.frozen 63;have hR4:=(hR3.put 63 (.int .u8 0)).congr (f':=fun k=>u8v (sumF R x 0 k)) (fun k hk=>sum_zero R _ k hk);have hF4:Fld (W3.setCell ⟨gr,63,none⟩ (.int .u8 0)) g:=Fm.far hF3 (by show g≠gr;omega) _;have hA4:Fm (W3.setCell ⟨gr,63,none⟩ (.int .u8 0)) gt 276 64 (fun j=>u8v (tapF 64 j)):=Fm.far hA3 (by show gt≠gr;omega) _;have hb4:Below g w (W3.setCell ⟨gr,63,none⟩ (.int .u8 0)):=hb3.setCell (by show g≤gr;omega) _;clear hF1 hA1 hR1 hb1 hF3 hA3 hb3 hk3 hR3;by_cases hx0:x=0
     ·have t2:((x.toNat:Int)==0)=true:=by rw[hx0];rfl
      clear iy
      go_wp2_with fail
      go_roundw
      case rel=>
       refine⟨i+1,by omega,by go_num,hF4,hA4,hR4.congr (fun k _=>?_),hb4⟩;rw[HE.out,HSE.out.2 hx0]
      case measure=>simp[intOf];omega
     ·have t2:((x.toNat:Int)==0)=false:=beq_eq_false_iff_ne.2 (fun e=>hx0 (UInt8.toNat_inj.1 (by simpa using e)))
      clear iy;obtain⟨C,hC1,hC2,hC3⟩:=id hA4;have hix:=fun(c:Nat) (hc:c<64) (V:World)=>idx_64 C c (tapF 64 c) hc (hC3 c hc) V;have HIX:=Lib.hid hix
      have hcs: ∀j v,C.toList[j]? =some v→(W3.setCell ⟨gr,63,none⟩ (.int .u8 0)).cell? ⟨gt,0+j,none⟩=some v:=fun j v hj=>by
       rw[Nat.zero_add,cell_of_row _ gt j C _ _ hC1,←Array.getElem?_toList];exact hj
      clear hix hC1 hC3
      go_wp2_with (refine wpList_load_part rfl 276 _ rfl gt 0 rfl C _ hcs Tryz.underlying276 rfl (by rw[hC2];kernel_rfl) ?_)
      clear hcs hC2
      go_wp2_with fail
      go_loopw [46] (fun jv W=> ∃j:Nat,j≤64∧jv= .int .i64 j∧Fld W g∧Fm W gt 276 64 (fun j=>u8v (tapF 64 j))∧Fm W gr 276 64 (fun k=>u8v (sumF R x j k))∧Below g w W) (fun jv _=>64-(intOf jv).toNat)
      case atStart=>exact⟨0,by omega,rfl,hF4,hA4,hR4,hb4⟩
      case round=>
       clear hF4 hA4 hR4 hb4 hcp c3 c4;obtain⟨j,hj,rfl,hF,hA,hR,hb⟩:=hrel;have j0:(0:Int)≤(j:Int):=Int.natCast_nonneg _;by_cases hjn:j<64
       ·have t3:decide ((j:Int)<64)=true:=decide_eq_true (by omega)
        have hij:=HIX.out j hjn;rw[show tapF 64 j=gen 64 (63-j)from if_pos hjn]at hij;have HM:=Lib.hid (sum_step R x j);obtain⟨z,hz⟩: ∃z,gen 64 (63-j)=z:=⟨_,rfl⟩;rw[hz]at hij HM;have c0:=fun p=>(Fm.ext hR p).cell j (by omega);have c1:=fun p=>(Fm.ext hR p).frozen j;obtain⟨m,hm⟩: ∃m,sumF R x j j=m:=⟨_,rfl⟩;rw[hm,u8v]at c0;rw[hm]at HM;have qm:=xor_g m (gm x z);have j1:(j:Int)<64:=by omega
        clear hm hz qx
        go_wp2_with fail
        refine Go.Proofs.YtibjkhepedfpiaaGreatDoor.Rg.region_new [(6,val (.int .u8 ((gm x z).toNat:Int)))] 9 (by kernel_rfl) (by kernel_rfl) (by kernel_rfl) (lk_cons val_inh lk_nil) (lk_cons val_mono lk_nil) ?_;intro σ hσ;simp only[List.take_succ_cons,List.take_zero,List.drop_succ_cons,List.drop_zero];have hs6:σ 6= .int .u8 ((gm x z).toNat:Int):=hσ 6 _ rfl;refine Go.Proofs.YtibjkhepedfpiaaGreatDoor.Rg.wpN_take 6 (by kernel_rfl) (by kernel_rfl) (by kernel_rfl) ?_;simp only[List.take_succ_cons,List.take_zero,List.drop_succ_cons,List.drop_zero]
        repeat (go_big_quiet_step (fail))
        refine wpQuiet_nil ?_;refine wpN_sp _ rfl (by kernel_rfl) (spAt_val (f:=166) (args:= #[.pointer (some ⟨g,0,none⟩),.int .u8 (x.toNat:Int),.int .u8 (z.toNat:Int)]) (by intro w0;go_simp) (fun p _=>GfA.mul_any _ g x z (Fm.ext hF p))) ?_;simp only[Act.put,List.setIfInBounds_toArray,List.set_cons_zero,List.set_cons_succ];rw[hs6];refine Go.Proofs.YtibjkhepedfpiaaGreatDoor.Rg.wpN_take 2 (by kernel_rfl) (by kernel_rfl) (by kernel_rfl) ?_;simp only[List.take_succ_cons,List.take_zero,List.drop_succ_cons,List.drop_zero]
        repeat (go_big_quiet_step (fail))
        refine wpQuiet_nil ?_;refine wpN_nil ?_;rintro w9 ⟨pq,rfl⟩ _;have d0:=c0 pq;have d1:=c1 pq;have hF9:Fld ((ext wr pq).setCell ⟨gr,j,none⟩ (.int .u8 ((m^^^gm x z).toNat:Int))) g:=Fm.far (Fm.ext hF pq) (by show g≠gr;omega) _;have hA9:Fm ((ext wr pq).setCell ⟨gr,j,none⟩ (.int .u8 ((m^^^gm x z).toNat:Int))) gt 276 64 (fun j=>u8v (tapF 64 j)):=Fm.far (Fm.ext hA pq) (by show gt≠gr;omega) _
        have hR9:=((Fm.ext hR pq).put j (.int .u8 ((m^^^gm x z).toNat:Int))).congr (f':=fun k=>u8v (sumF R x (j+1) k)) (fun n _=>by
         rw[←HM.out]
         split<;>rfl)
        have hb9:Below g w ((ext wr pq).setCell ⟨gr,j,none⟩ (.int .u8 ((m^^^gm x z).toNat:Int))):=(hb.trans ((below_ext wr pq).mono (by have:=hF.lt;omega))).setCell (by show g≤gr;omega) _;have H9:=Lib.hid (And.intro hF9 (And.intro hA9 (And.intro hR9 hb9)));clear hF hA hR hb hF9 hA9 hR9 hb9 c0 c1 hσ hs6
        go_wp2_with fail
        go_roundw
        case rel=>exact⟨j+1,by omega,by go_num,H9.out.1,H9.out.2.1,H9.out.2.2.1,H9.out.2.2.2⟩
        case measure=>simp[intOf];omega
       ·obtain rfl:j=64:=by omega
        have t3:decide (((64:Nat):Int)<64)=false:=by decide
        go_wp2_with fail
        refine⟨?_,?measure⟩
        ·repeat apply Exists.intro
         refine⟨?_,rfl⟩;refine⟨i+1,by omega,by go_num,hF,hA,hR.congr (fun k hk=>?_),hb⟩;rw[HE.out];exact congrArg u8v (HSE.out.1 k hk)
        ·simp[intOf];omega
    ·obtain rfl:i=d.size:=by omega
     have t1:decide ((d.size:Int)<(d.size:Int))=false:=decide_eq_false (by omega);have t1':decide (d.size<d.size)=false:=decide_eq_false (by omega);rw[show(bl d).take d.size=bl d by rw[←bl_len,List.take_length]]at hR;have kc:=conv_fm hR 64;have HE:=Lib.hid (show(List.range 64).map (encR (bl d))=enc (bl d)from rfl);rw[HE.out]at kc;obtain⟨q,hq⟩: ∃q,str (enc (bl d))=q:=⟨_,rfl⟩;rw[hq]at kc;have HQ:=Lib.hid hq;clear hq
     go_wp2_with fail
     simp only[Exit.jump]
     go_ret2
     exact⟨by rw[HQ.out];rfl,by rw[hg];exact hb⟩
end Go.Proofs.YtibjkhepedfpiaaGreatDoor.RsA
namespace Go.Proofs.YtibjkhepedfpiaaGreatDoor.RsB
open Go Go.RowKit Q Mem Rg Ap St BiW BiG CrB SeEq TbM GfP PoP RsP GfA PoA
set_option maxRecDepth 100000
def synL (l:List UInt8):List UInt8:=(List.range 64).map fun j=>hr l (ex j)
def isW (l:List UInt8):Bool:=(trimL (synL l)).isEmpty
theorem isW_iff (l:List UInt8):isW l=true↔ ∀j,j<64→hr l (ex j)=0:=by
 have hf: ∀j,fa (synL l) j=if j<64 then hr l (ex j)else 0:=fun j=>by
  by_cases h:j<64
  ·rw[if_pos h];exact fa_in (by simp[synL,h])
  ·rw[if_neg h];exact fa_out (by simp[synL];omega)
 constructor
 ·intro h j hj
  have h0:trimL (synL l)=[]:=by unfold isW at h;simpa using h
  have:=hf j;rw[if_pos hj,←fa_trim,h0]at this;exact this.symm
 ·intro h
  unfold isW;rw[trim_zeros (fun j=>by rw[hf j];split;exact h j (by assumption);rfl)];rfl
end Go.Proofs.YtibjkhepedfpiaaGreatDoor.RsB
namespace Go.Proofs.YtibjkhepedfpiaaGreatDoor.PoB
open Go Go.RowKit Go.Shelf Q Mem Rg Ap ApC St BiW BiG BiF Rf CrB TbM GfP PoP RsP GfA PoA
attribute [local go_sem] Oper.semAt_some
set_option maxRecDepth 100000
def hrB (s:ByteArray) (x:UInt8) (k:Nat):UInt8:=hr ((bl s).reverse.take k) x
end Go.Proofs.YtibjkhepedfpiaaGreatDoor.PoB
namespace Go.Proofs.YtibjkhepedfpiaaGreatDoor.FrA
open Go Go.RowKit Q Mem Rg Ap ApG St BiW Tab TlS Fl TbM TbN
set_option maxRecDepth 100000
def okC (R C K:Int):Bool:=isSz R&&decide (1≤C)&&decide (C≤191)&&decide (0≤K)&&decide (K≤64)
set_option maxHeartbeats 1600000 in
theorem check_any (R C K:Int) (w:World) (hT:Tab 1 w):Calls Tryz.prog 85 #[.agg #[.int .i64 R,.int .i64 C,.int .i64 K]] w fun e w'=>e= .returned (.int .i64 (if okC R C K then 0 else 23))∧Below w.heap.size w w':=by
 have hbe:=(Below.refl _ w).alloc (Nat.le_refl _) (.cells #[.int .i64 R,.int .i64 C,.int .i64 K] 123);have hB:=Blk.new w 123 #[.int .i64 R,.int .i64 C,.int .i64 K];have c0:=fun p=>Blk.cell (blk_ext hB p) 0 (v:= .int .i64 R) rfl;have c1:=fun p=>Blk.cell (blk_ext hB p) 1 (v:= .int .i64 C) rfl;have c2:=fun p=>Blk.cell (blk_ext hB p) 2 (v:= .int .i64 K) rfl;have kc:=fun p=>contains_any 1 R (ext (w.alloc (.cells #[.int .i64 R,.int .i64 C,.int .i64 K] 123)) p) ((hT.be hbe).ext p);have HR:Hid ((if okC R C K then(0:Int)else 23)=if(isSz R&&decide (1≤C)&&decide (C≤191)&&decide (0≤K)&&decide (K≤64))=true then 0 else 23):=Lib.hid rfl;obtain⟨Z,hZ⟩: ∃Z,isSz R=Z:=⟨_,rfl⟩;rw[hZ]at kc HR;clear hZ hT hB;obtain⟨X,hX⟩: ∃X:Int,(if okC R C K then(0:Int)else 23)=X:=⟨_,rfl⟩;rw[hX]at HR ⊢;clear hX
 cases Z with
 |false=>
  replace HR:Hid (X=23):=Lib.hid (by rw[HR.out];rfl)
  go_enter Tryz.func85,Tryz.ntmps85
  go_wp2_with fail
  refine Go.Proofs.YtibjkhepedfpiaaGreatDoor.Q.region_ext (by kernel_rfl) (by kernel_rfl) ?_
  repeat (go_big_quiet_step ((go_at_call 116;refine ext_call_same (kc _))))
  refine wpQuiet_nil ?_;rintro w9 ⟨pq,rfl⟩;have hbz:=hbe.trans ((below_ext _ pq).mono hbe.size);clear c0 c1 c2 kc
  go_wp2_with fail
  go_ret;rw[HR.out];exact⟨rfl,hbz⟩
 |true=>
  by_cases h1:C<1
  ·have t1:decide (C<1)=true:=decide_eq_true h1
   replace HR:Hid (X=23):=Lib.hid (by rw[HR.out,decide_eq_false (show ¬1≤C by omega)];rfl)
   go_enter Tryz.func85,Tryz.ntmps85
   go_wp2_with fail
   refine Go.Proofs.YtibjkhepedfpiaaGreatDoor.Q.region_ext (by kernel_rfl) (by kernel_rfl) ?_
   repeat (go_big_quiet_step ((go_at_call 116;refine ext_call_same (kc _))))
   refine wpQuiet_nil ?_;rintro w9 ⟨pq,rfl⟩;have hbz:=hbe.trans ((below_ext _ pq).mono hbe.size);clear c0 c1 c2 kc
   go_wp2_with fail
   go_ret;rw[HR.out];exact⟨rfl,hbz⟩
  ·have t1:decide (C<1)=false:=decide_eq_false h1
   by_cases h2:191<C
   ·have t2:decide (191<C)=true:=decide_eq_true h2
    replace HR:Hid (X=23):=Lib.hid (by rw[HR.out,decide_eq_false (show ¬C≤191 by omega),Bool.and_false];rfl)
    go_enter Tryz.func85,Tryz.ntmps85
    go_wp2_with fail
    refine Go.Proofs.YtibjkhepedfpiaaGreatDoor.Q.region_ext (by kernel_rfl) (by kernel_rfl) ?_
    repeat (go_big_quiet_step ((go_at_call 116;refine ext_call_same (kc _))))
    refine wpQuiet_nil ?_;rintro w9 ⟨pq,rfl⟩;have hbz:=hbe.trans ((below_ext _ pq).mono hbe.size);clear c0 c1 c2 kc
    go_wp2_with fail
    go_ret;rw[HR.out];exact⟨rfl,hbz⟩
   ·have t2:decide (191<C)=false:=decide_eq_false h2
    by_cases h3:K<0
    ·have t3:decide (K<0)=true:=decide_eq_true h3
     replace HR:Hid (X=23):=Lib.hid (by rw[HR.out,decide_eq_false (show ¬0≤K by omega),Bool.and_false];rfl)
     go_enter Tryz.func85,Tryz.ntmps85
     go_wp2_with fail
     refine Go.Proofs.YtibjkhepedfpiaaGreatDoor.Q.region_ext (by kernel_rfl) (by kernel_rfl) ?_
     repeat (go_big_quiet_step ((go_at_call 116;refine ext_call_same (kc _))))
     refine wpQuiet_nil ?_;rintro w9 ⟨pq,rfl⟩;have hbz:=hbe.trans ((below_ext _ pq).mono hbe.size);clear c0 c1 c2 kc
     go_wp2_with fail
     go_ret;rw[HR.out];exact⟨rfl,hbz⟩
    ·have t3:decide (K<0)=false:=decide_eq_false h3
     by_cases h4:64<K
     ·have t4:decide (64<K)=true:=decide_eq_true h4
      replace HR:Hid (X=23):=Lib.hid (by rw[HR.out,decide_eq_false (show ¬K≤64 by omega),Bool.and_false];rfl)
      go_enter Tryz.func85,Tryz.ntmps85
      go_wp2_with fail
      refine Go.Proofs.YtibjkhepedfpiaaGreatDoor.Q.region_ext (by kernel_rfl) (by kernel_rfl) ?_
      repeat (go_big_quiet_step ((go_at_call 116;refine ext_call_same (kc _))))
      refine wpQuiet_nil ?_;rintro w9 ⟨pq,rfl⟩;have hbz:=hbe.trans ((below_ext _ pq).mono hbe.size);clear c0 c1 c2 kc
      go_wp2_with fail
      go_ret;rw[HR.out];exact⟨rfl,hbz⟩
     ·have t4:decide (64<K)=false:=decide_eq_false h4
      replace HR:Hid (X=0):=Lib.hid (by rw[HR.out,decide_eq_true (show 1≤C by omega),decide_eq_true (show C≤191 by omega),decide_eq_true (show 0≤K by omega),decide_eq_true (show K≤64 by omega)];rfl)
      go_enter Tryz.func85,Tryz.ntmps85
      go_wp2_with fail
      refine Go.Proofs.YtibjkhepedfpiaaGreatDoor.Q.region_ext (by kernel_rfl) (by kernel_rfl) ?_
      repeat (go_big_quiet_step ((go_at_call 116;refine ext_call_same (kc _))))
      refine wpQuiet_nil ?_;rintro w9 ⟨pq,rfl⟩;have hbz:=hbe.trans ((below_ext _ pq).mono hbe.size);clear c0 c1 c2 kc
      go_wp2_with fail
      go_ret;rw[HR.out];exact⟨rfl,hbz⟩
structure Fr where
 R:Nat
 C:Nat
 K:Nat
 L:List (Nat×ByteArray)
 used:Nat
 D:Nat→Nat→UInt8
 old:Bool
def frF (S:Fr) (k:Nat):Value:=u8v (S.D (k/255) (k%255))
theorem frF_at (S:Fr) (r c:Nat) (hc:c<255):frF S (r*255+c)=u8v (S.D r c):=by
 unfold frF;rw[show(r*255+c)%255=c by omega,show(r*255+c)/255=r by omega]
def enPd (x:Nat×ByteArray):List Value:=[.int .i64 (x.1:Int),.string x.2]
theorem enPd_len (x:Nat×ByteArray):(enPd x).length=2:=rfl
structure FrIn (w:World) (B gf gr:Nat) (v:Value) (S:Fr):Prop where
 box:Blk w gf 178 #[.int .i64 (S.R:Int),.int .i64 (S.C:Int),.int .i64 (S.K:Int),v,.int .i64 (S.used:Int),.slice (some ⟨gr,0,none⟩) S.R S.R,.bool S.old]
 rows:Fm w gr 182 (S.R*255) (frF S)
 l:w.ownsRow B 185 2 v S.L.length (flat enPd S.L)
 ne:gf≠gr
 nt:v.ownBlock≠some gf
 nr:v.ownBlock≠some gr
 bt:B≤gf
 br:B≤gr
def footF (gf gr:Nat) (v:Value) (i:Nat):Prop:=i=gf∨i=gr∨v.ownBlock=some i
section
variable {w w':World} {B gf gr:Nat} {v:Value} {S:Fr}
theorem FrIn.ge (h:FrIn w B gf gr v S): ∀i,footF gf gr v i→B≤i∧i<w.heap.size:=by
 rintro i (rfl|rfl|e)
 ·exact⟨h.bt,h.box.lt⟩
 ·exact⟨h.br,h.rows.lt⟩
 ·exact h.l.lt i e
theorem own_kept {e:TypeId} {sz n:Nat} {xs:List Value} {F:Nat→Prop} (h:w.ownsRow B e sz v n xs) (k:Kept F w w') (hF: ∀i,v.ownBlock=some i→ ¬F i):w'.ownsRow B e sz v n xs:=by
 refine⟨h.1,?_⟩;rcases h.2 with h1|⟨g,cap,cur,e,hb,hg,h2⟩
 ·exact Or.inl h1
 ·refine Or.inr ⟨g,cap,cur,e,hb,?_,h2⟩
  rw[k.block g (Array.getElem?_eq_some_iff.1 hg).1 (hF g (by rw[e];rfl))];exact hg
theorem FrIn.kept {F:Nat→Prop} (h:FrIn w B gf gr v S) (k:Kept F w w') (hF: ∀i,footF gf gr v i→ ¬F i):FrIn w' B gf gr v S:=
 ⟨(k.block gf h.box.lt (hF _ (Or.inl rfl))).trans h.box,h.rows.same (k.block gr h.rows.lt (hF _ (Or.inr (Or.inl rfl)))),own_kept h.l k (fun i hi=>hF i (Or.inr (Or.inr hi))),h.ne,h.nt,h.nr,h.bt,h.br⟩
theorem FrIn.below (h:FrIn w B gf gr v S) (k:Below w.heap.size w w'):FrIn w' B gf gr v S:=h.kept (kept_below (fun _=>False) k) (fun _ _ h=>h)
theorem FrIn.ext (h:FrIn w B gf gr v S) (p:Ext):FrIn (ext w p) B gf gr v S:=h.below (below_ext w p)
end
def emptyF (R C K:Nat):Fr:=⟨R,C,K,[],0,fun _ _=>0,false⟩
theorem row_info:(Tryz.prog.info? 182).map (fun i=>(i.zero,i.size,i.bytes))=some (some (.agg (Array.replicate 255 (.int .u8 0))),255,255):=by kernel_rfl
theorem mk_rows (R C K:Nat) (hR:R≤1024) (V:World): ∃A:Array Value,(Instr.makeSlice 175 (.int .i64 (R:Int)) (.int .i64 (R:Int))).run Tryz.prog V= .ok (.slice (some ⟨V.heap.size,0,none⟩) R R) (V.alloc (.cells A 182))∧Fm (V.alloc (.cells A 182)) V.heap.size 182 (R*255) (frF (emptyF R C K)):=by
 cases hi:Tryz.prog.info? 182 with
 |none=>have h:=row_info;rw[hi]at h;cases h
 |some i=>
  have h:=row_info;rw[hi]at h;simp only[Option.map_some,Option.some.injEq,Prod.mk.injEq]at h;obtain⟨h1,h2,h3⟩:=h;have hr:=run_make (P:=Tryz.prog) V 175 182 i (.agg (Array.replicate 255 (.int .u8 0))) Tryz.underlying175 hi h1 .i64 .i64 R R (by omega) (Int.le_refl _) (by rw[h3];omega) (by omega);rw[Int.toNat_natCast,h2]at hr;have hz:(Value.agg (Array.replicate 255 (.int .u8 0))).cells=Array.replicate 255 (Value.int .u8 0):=rfl;rw[hz]at hr;obtain⟨Z,hZ⟩: ∃Z,Array.replicate 255 (Value.int .u8 0)=Z:=⟨_,rfl⟩;have hzs:Z.size=255:=by rw[←hZ];simp
  have hza: ∀k,k<255→Z[k]! = .int .u8 0:=fun k hk=>by
   rw[←hZ,getElem!_pos _ _ (by simp;omega),Array.getElem_replicate]
  rw[hZ]at hr;clear hZ hz h1 hi;refine⟨madeCells Z (R*255),hr,madeCells Z (R*255),heap_alloc_new V _,size_madeCells _ _,fun k hk=>?_⟩;unfold madeCells;rw[Array.getElem?_map,Array.getElem?_range];simp only[hk,if_true,Option.map_some]
  congr 1
  have hm:k%255<255:=Nat.mod_lt _ (by decide);rw[hzs,hza _ hm];rfl
structure FrNew (R C K:Int) (w:World) (e:Ending) (w':World):Prop where
 ok: ∃(r c k gf gr:Nat),R=(r:Int)∧C=(c:Int)∧K=(k:Int)∧r≤1024∧0<r∧c≤191∧k≤64∧e= .returned (.tuple #[.pointer (some ⟨gf,0,none⟩),.int .i64 0])∧FrIn w' w.heap.size gf gr (.slice none 0 0) (emptyF r c k)
set_option maxHeartbeats 1600000 in
theorem new_any (R C K:Int) (w:World) (hT:Tab 1 w):Calls Tryz.prog 48 #[.agg #[.int .i64 R,.int .i64 C,.int .i64 K]] w fun e w'=>Below w.heap.size w w'∧
 if okC R C K then FrNew R C K w e w' else e= .returned (.tuple #[.pointer none,.int .i64 23]):=by
 have hbe:=(Below.refl _ w).alloc (Nat.le_refl _) (.cells #[.int .i64 R,.int .i64 C,.int .i64 K] 123);have hB:=Blk.new w 123 #[.int .i64 R,.int .i64 C,.int .i64 K];have kc:=check_any R C K (w.alloc (.cells #[.int .i64 R,.int .i64 C,.int .i64 K] 123)) (hT.be hbe);have HZ:Hid (okC R C K=(isSz R&&decide (1≤C)&&decide (C≤191)&&decide (0≤K)&&decide (K≤64))):=Lib.hid rfl;obtain⟨Z,hZ⟩: ∃Z,okC R C K=Z:=⟨_,rfl⟩;rw[hZ]at kc HZ ⊢;have c0:=Blk.cell hB 0 (v:= .int .i64 R) rfl;have c1:=Blk.cell hB 1 (v:= .int .i64 C) rfl;have c2:=Blk.cell hB 2 (v:= .int .i64 K) rfl;clear hZ hT
 cases Z with
 |false=>
  rw[if_neg (by decide)]at kc
  go_enter Tryz.func48,Tryz.ntmps48
  go_wp2_with fail
  (with_reducible refine(kc).mono ?_);rintro e1 W1 ⟨rfl,hb1⟩
  have hbz:=hbe.trans (hb1.mono hbe.size);clear kc c0 c1 c2
  go_wp2_with fail
  go_ret2
  exact⟨hbz,rfl⟩
 |true=>
  rw[if_pos rfl]at kc;have hz:=HZ.out.symm;simp only[Bool.and_eq_true,decide_eq_true_eq]at hz;obtain⟨⟨⟨⟨z1,z2⟩,z3⟩,z4⟩,z5⟩:=hz;have zr:=isSz_true z1;obtain⟨r,rfl⟩: ∃r:Nat,R=(r:Int):=⟨R.toNat,by omega⟩;obtain⟨c,rfl⟩: ∃c:Nat,C=(c:Int):=⟨C.toNat,by omega⟩;obtain⟨k,rfl⟩: ∃k:Nat,K=(k:Int):=⟨K.toNat,by omega⟩;have HN:=Lib.hid (show r≤1024∧0<r∧c≤191∧k≤64 from⟨by omega,by omega,by omega,by omega⟩);clear z1 z2 z3 z4 z5 zr HZ
  go_enter Tryz.func48,Tryz.ntmps48
  go_wp2_with fail
  (with_reducible refine(kc).mono ?_);rintro e1 W1 ⟨rfl,hb1⟩
  have hbz:=hbe.trans (hb1.mono hbe.size);have hB1:=Blk.below hB hb1 hB.lt;clear kc c0 c1 c2 hB hb1;obtain⟨A,hmk,hF⟩:=mk_rows r c k HN.out.1 W1.drew;have hB2:=Blk.drew hB1;have d0:=Blk.cell (hB2) 0 (v:= .int .i64 (r:Int)) rfl;have d1:=Blk.cell (hB2) 1 (v:= .int .i64 (c:Int)) rfl;have d2:=Blk.cell (hB2) 2 (v:= .int .i64 (k:Int)) rfl;have hB3:=Blk.drew (Blk.alloc hB1 (.cells A 182));have e0:=Blk.cell (hB3) 0 (v:= .int .i64 (r:Int)) rfl;have e1:=Blk.cell (hB3) 1 (v:= .int .i64 (c:Int)) rfl;have e2:=Blk.cell (hB3) 2 (v:= .int .i64 (k:Int)) rfl;have HF:=Lib.hid hF;clear hF hB1 hB2 hB3
  go_wp2_with fail
  go_region
  go_wp2_with fail
  go_ret2
  have hs1:=hbz.size;have hb2:Below w.heap.size w (W1.drew.alloc (.cells A 182)):=(hbz.drew).alloc hs1 _;refine⟨hb2.alloc (by simp;omega) _,⟨r,c,k,W1.heap.size+1,W1.heap.size,rfl,rfl,rfl,HN.out.1,HN.out.2.1,HN.out.2.2.1,HN.out.2.2.2,rfl,⟨?_,Fm.alloc HF.out _,World.ownsRow_nil _ _ _ _,by omega,fun h=>(by cases h),fun h=>(by cases h),by omega,by omega⟩⟩⟩;exact Blk.newAt _ _ _ (by simp)
theorem spot_any (w:World) (B gf gr p:Nat) (v:Value) (S:Fr) (h:FrIn w B gf gr v S) (hR:S.R≤1024) (hp:p<255*S.R):Calls Tryz.prog 87 #[.pointer (some ⟨gf,0,none⟩),.int .i64 p] w fun e w'=>e= .returned (.complex .f64 (fl (p/S.R)) (fl (p%S.R)))∧Below w.heap.size w w':=by
 have c0:=fun q=>Blk.cell (blk_ext h.box q) 0 (v:= .int .i64 (S.R:Int)) rfl;obtain⟨R,hRR⟩: ∃R,S.R=R:=⟨_,rfl⟩;rw[hRR]at c0 hR hp ⊢;have hR0:R≠0:=by omega
 have HX:=Lib.hid (And.intro (ofInt_fl (p/R)) (ofInt_fl (p%R)));clear h hRR
 go_enter Tryz.func87,Tryz.ntmps87
 go_wp2_with fail
 refine Go.Proofs.YtibjkhepedfpiaaGreatDoor.Q.region_ext (by kernel_rfl) (by kernel_rfl) ?_
 repeat (go_big_quiet_step (fail))
 refine wpQuiet_nil ?_;rintro w9 ⟨pq,rfl⟩
 go_wp2_with fail
 go_ret;refine⟨?_,below_ext w pq⟩;have h1:p/R<255:=(Nat.div_lt_iff_lt_mul (by omega)).2 hp
 have h2:wrap64 ((p:Int)/(R:Int))=((p/R:Nat):Int):=by
  rw[←Int.natCast_ediv];obtain⟨x,hx⟩: ∃x,p/R=x:=⟨_,rfl⟩;rw[hx]at h1 ⊢;unfold wrap64;omega
 have h3:(p:Int)%(R:Int)=((p%R:Nat):Int):=(Int.natCast_emod p R).symm;rw[←HX.out.1,←HX.out.2,←h2,←h3];rfl
def padN (S:Fr):Nat:=if S.used=0 then 191 else 190-(S.used-1)/S.R
theorem padding_any (w:World) (B gf gr:Nat) (v:Value) (S:Fr) (h:FrIn w B gf gr v S) (hR:S.R≤1024) (hu:S.used≤191*S.R):Calls Tryz.prog 55 #[.pointer (some ⟨gf,0,none⟩)] w fun e w'=>e= .returned (.int .i64 (padN S:Nat))∧Below w.heap.size w w':=by
 have c0:=Blk.cell h.box 4 (v:= .int .i64 (S.used:Int)) rfl;have HP:=Lib.hid (show padN S=if S.used=0 then 191 else 190-(S.used-1)/S.R from rfl);by_cases h0:S.used=0
 ·have t0:((S.used:Int)==0)=true:=by simpa using h0
  have hP:padN S=191:=by rw[HP.out,if_pos h0]
  rw[hP];clear HP hP h0 hu h
  go_enter Tryz.func55,Tryz.ntmps55
  go_wp2_with fail
  go_ret;exact⟨rfl,Below.refl _ _⟩
 ·have t0:((S.used:Int)==0)=false:=beq_eq_false_iff_ne.2 (by omega)
  have hP:padN S=190-(S.used-1)/S.R:=by rw[HP.out,if_neg h0]
  have ks:=spot_any w B gf gr (S.used-1) v S h hR (by omega);have hq:(S.used-1)/S.R<191:=(Nat.div_lt_iff_lt_mul (by omega)).2 (by omega);rw[show((S.used-1:Nat):Int)=(S.used:Int)-1 by omega]at ks;obtain⟨q,hqq⟩: ∃q,(S.used-1)/S.R=q:=⟨_,rfl⟩;obtain⟨q2,hq2⟩: ∃q,(S.used-1)%S.R=q:=⟨_,rfl⟩;rw[hqq,hq2]at ks;rw[hqq]at hP hq;have k1:=fun V=>run_cint (P:=Tryz.prog) (w:=V) 183 3 q (by kernel_rfl) Tryz.underlying3 (by omega);have hX:=Lib.hid (show((padN S:Nat):Int)=190-(q:Int) by rw[hP];omega);have j1:(q:Int)<191:=by omega
  have j0:(0:Int)≤(q:Int):=Int.natCast_nonneg _;have j2:(S.used:Int)≤200000:=by omega
  clear HP hP hqq hq2 hq h hu
  go_enter Tryz.func55,Tryz.ntmps55
  go_wp2_with fail
  (with_reducible refine(ks).mono ?_);rintro e1 W1 ⟨rfl,hb1⟩
  clear ks
  go_wp2_with fail
  go_ret;exact⟨by rw[hX.out];rfl,hb1⟩
end Go.Proofs.YtibjkhepedfpiaaGreatDoor.FrA
namespace Go.Proofs.YtibjkhepedfpiaaGreatDoor.FrB
open Go Go.RowKit Q Mem Rg Ap ApG St BiW Tab TlS Fl DgC TbM TbN TbP FrA
set_option maxRecDepth 100000
theorem elemPd:Elem Tryz.prog 176 185 2 24:=elem_of Tryz.underlying176 (z:= .agg #[.int .i64 0,.string ByteArray.empty]) (by kernel_rfl) rfl (by decide)
structure OkF (S:Fr):Prop where
 R:S.R≤1024
 R0:0<S.R
 C:S.C≤191
 u:S.used≤S.R*S.C
 n:S.L.length≤S.used
def laidF (S:Fr) (d:ByteArray) (k:Nat):Fr:={S with D:=fun r c=>if S.used≤c*S.R+r∧c*S.R+r<S.used+k then sb d (c*S.R+r-S.used)else S.D r c}
theorem laidF_zero (S:Fr) (d:ByteArray):laidF S d 0=S:=by
 unfold laidF;have h: ∀r c,¬(S.used≤c*S.R+r∧c*S.R+r<S.used+0):=fun r c=>by omega
 simp only[h,if_false]
theorem laidF_step (S:Fr) (d:ByteArray) (k j:Nat) (hp:S.used+k<255*S.R) (hj:j<S.R*255):
 (if j=(S.used+k)%S.R*255+(S.used+k)/S.R then Value.int .u8 ((sb d k).toNat:Int)else frF (laidF S d k) j)=frF (laidF S d (k+1)) j:=by
 obtain⟨h1,h2,h3⟩:=div_lt hp;obtain⟨r,hr⟩: ∃r,(S.used+k)%S.R=r:=⟨_,rfl⟩;obtain⟨c,hc⟩: ∃c,(S.used+k)/S.R=c:=⟨_,rfl⟩;rw[hr]at h1 h3 ⊢;rw[hc]at h2 h3 ⊢;clear hr hc;have hq:j/255<S.R:=(Nat.div_lt_iff_lt_mul (by decide)).2 hj;unfold frF laidF;dsimp only;by_cases e:j=r*255+c
 ·have e1:j%255=c:=by omega
  have e2:j/255=r:=by omega
  rw[if_pos e,e1,e2,h3,if_pos (by omega),Nat.add_sub_cancel_left];rfl
 ·rw[if_neg e]
  congr 1
  have hne:j%255*S.R+j/255≠S.used+k:=fun h=>by
   obtain⟨h4,h5⟩:=split_eq hq h1 (h.trans h3.symm);omega
  by_cases h4:S.used≤j%255*S.R+j/255∧j%255*S.R+j/255<S.used+k
  ·rw[if_pos h4,if_pos (by omega)]
  ·rw[if_neg h4,if_neg (by omega)]
def addE (S:Fr) (d:ByteArray):Int:=if dgE d≠0 then dgE d else if S.R*S.C<S.used+d.size then 17 else 0
def addS (S:Fr) (d:ByteArray):Fr:=if addE S d≠0 then S else {laidF S d d.size with L:=S.L++[(S.used,d)],used:=S.used+d.size,old:=true}
theorem dg_size {d:ByteArray} (h:dgE d=0):20≤d.size∧d.size≤4080:=by
 unfold dgE at h
 split at h
 ·rename_i h1;exact absurd h h1
 ·rename_i h1
  have hp:=pk_ok (by simpa using h1)
  split at h
  ·omega
  split at h
  ·omega
  ·omega
theorem fr_rows {w w':World} {B gf gr:Nat} {v:Value} {S S':Fr} (h:FrIn w B gf gr v S) (k:Kept (fun j=>j=gr) w w') (hR:S'.R=S.R) (hC:S'.C=S.C) (hK:S'.K=S.K) (hL:S'.L=S.L) (hu:S'.used=S.used) (ho:S'.old=S.old) (hr:Fm w' gr 182 (S.R*255) (frF S')):FrIn w' B gf gr v S':=by
 refine⟨?_,?_,?_,h.ne,h.nt,h.nr,h.bt,h.br⟩
 ·rw[hR,hC,hK,hu,ho];exact(k.block gf h.box.lt h.ne).trans h.box
 ·rw[hR];exact hr
 ·rw[hL];exact own_kept h.l k (fun i hi e=>h.nr (by rw[hi,e]))
set_option maxHeartbeats 3200000 in
theorem add_any (w:World) (B gf gr:Nat) (v:Value) (S:Fr) (d:ByteArray) (h:FrIn w B gf gr v S) (hok:OkF S) (hs:d.size≤1099511627776):
 Calls Tryz.prog 49 #[.pointer (some ⟨gf,0,none⟩),.string d] w fun e w'=> ∃v',e= .returned (.tuple #[.int .i64 (if addE S d=0 then(S.used:Int)else 0),.int .i64 (addE S d)])∧FrIn w' B gf gr v' (addS S d)∧far w v v'∧Kept (footF gf gr v) w w':=by
 have kd:=fun V=>DgC.check_any d V hs;have HEd:=Lib.hid (show addE S d=if dgE d≠0 then dgE d else if S.R*S.C<S.used+d.size then 17 else 0 from rfl);have HDS:=Lib.hid (dg_size (d:=d));have HF:=Lib.hid h;obtain⟨E,hE⟩: ∃E,dgE d=E:=⟨_,rfl⟩;rw[hE]at kd HEd HDS;clear hE;by_cases hE0:E=0
 ·subst hE0
  have hd:=HDS.out rfl;have hu1:S.R*S.C≤1024*191:=Nat.mul_le_mul hok.R hok.C;have c0:=fun W (hW:FrIn W B gf gr v S) q=>Blk.cell (blk_ext hW.box q) 0 (v:= .int .i64 (S.R:Int)) rfl;have c1:=fun W (hW:FrIn W B gf gr v S) q=>Blk.cell (blk_ext hW.box q) 1 (v:= .int .i64 (S.C:Int)) rfl;by_cases hfit:S.R*S.C<S.used+d.size
  ·have HE:=Lib.hid (show addE S d=17 by rw[HEd.out,if_neg (by simp),if_pos hfit])
   have HS:=Lib.hid (show addS S d=S from if_pos (by rw[HE.out];decide));have t1:decide ((S.R:Int)*(S.C:Int)-(S.used:Int)<(d.size:Int))=true:=decide_eq_true (by have:((S.R*S.C:Nat):Int)=(S.R:Int)*(S.C:Int):=Int.natCast_mul _ _;omega);have t2:decide (S.R*S.C-S.used<d.size)=true:=decide_eq_true (by omega);have q0:(0:Int)≤(S.R:Int)*(S.C:Int):=by have:((S.R*S.C:Nat):Int)=(S.R:Int)*(S.C:Int):=Int.natCast_mul _ _;omega
   have q1:(S.R:Int)*(S.C:Int)≤200000:=by have:((S.R*S.C:Nat):Int)=(S.R:Int)*(S.C:Int):=Int.natCast_mul _ _;omega
   have q2:(S.used:Int)≤(S.R:Int)*(S.C:Int):=by have:((S.R*S.C:Nat):Int)=(S.R:Int)*(S.C:Int):=Int.natCast_mul _ _;have:=hok.u;omega
   rw[show(if addE S d=0 then(S.used:Int)else 0)=0 from if_neg (by rw[HE.out];decide),HE.out];have q3:(0:Int)≤(S.used:Int):=Int.natCast_nonneg _;clear h hok HEd HDS hu1 hfit
   go_enter Tryz.func49,Tryz.ntmps49
   go_wp2_with fail
   (with_reducible refine(kd _).mono ?_);rintro e1 W1 ⟨rfl,hb1⟩
   have hF1:=HF.out.below hb1;have d0:=c0 W1 hF1;have d1:=c1 W1 hF1;have d4:=Blk.cell hF1.box 4 (v:= .int .i64 (S.used:Int)) rfl;have d4':=fun q=>Blk.cell (blk_ext hF1.box q) 4 (v:= .int .i64 (S.used:Int)) rfl;clear kd c0 c1 hF1
   go_wp2_with fail
   refine Go.Proofs.YtibjkhepedfpiaaGreatDoor.Q.region_ext (by kernel_rfl) (by kernel_rfl) ?_
   repeat (go_big_quiet_step (fail))
   refine wpQuiet_nil ?_;rintro w9 ⟨pq,rfl⟩;have hb2:=hb1.trans ((below_ext W1 pq).mono hb1.size);clear d0 d1 d4 d4'
   go_wp2_with fail
   go_ret2
   exact⟨v,rfl,by rw[HS.out];exact HF.out.below hb2,Or.inl rfl,kept_below _ hb2⟩
  ·have HE:=Lib.hid (show addE S d=0 by rw[HEd.out,if_neg (by simp),if_neg hfit])
   have HS:=Lib.hid (show addS S d={laidF S d d.size with L:=S.L++[(S.used,d)],used:=S.used+d.size,old:=true}from if_neg (by rw[HE.out];decide));have t1:decide ((S.R:Int)*(S.C:Int)-(S.used:Int)<(d.size:Int))=false:=decide_eq_false (by have:((S.R*S.C:Nat):Int)=(S.R:Int)*(S.C:Int):=Int.natCast_mul _ _;omega);have t2:decide (S.R*S.C-S.used<d.size)=false:=decide_eq_false (by omega);have q0:(0:Int)≤(S.R:Int)*(S.C:Int):=by have:((S.R*S.C:Nat):Int)=(S.R:Int)*(S.C:Int):=Int.natCast_mul _ _;omega
   have q1:(S.R:Int)*(S.C:Int)≤200000:=by have:((S.R*S.C:Nat):Int)=(S.R:Int)*(S.C:Int):=Int.natCast_mul _ _;omega
   have q2:(S.used:Int)≤(S.R:Int)*(S.C:Int):=by have:((S.R*S.C:Nat):Int)=(S.R:Int)*(S.C:Int):=Int.natCast_mul _ _;have:=hok.u;omega
   rw[show(if addE S d=0 then(S.used:Int)else 0)=S.used from if_pos HE.out,HE.out];have q3:(0:Int)≤(S.used:Int):=Int.natCast_nonneg _;have hRC:S.R*S.C≤S.R*191:=Nat.mul_le_mul_left _ hok.C;have HN:=Lib.hid (show S.used+d.size≤191*S.R∧d.size≤4080∧S.R≤1024∧S.L.length≤S.used from⟨by omega,hd.2,hok.R,hok.n⟩);clear h hok HEd HDS hu1 hfit hd hRC
   go_enter Tryz.func49,Tryz.ntmps49
   go_wp2_with fail
   (with_reducible refine(kd _).mono ?_);rintro e1 W1 ⟨rfl,hb1⟩
   have hF1:=HF.out.below hb1;have d0:=c0 W1 hF1;have d1:=c1 W1 hF1;have d4:=Blk.cell hF1.box 4 (v:= .int .i64 (S.used:Int)) rfl;have d4':=fun q=>Blk.cell (blk_ext hF1.box q) 4 (v:= .int .i64 (S.used:Int)) rfl;clear kd c0 c1 hF1
   go_wp2_with fail
   refine Go.Proofs.YtibjkhepedfpiaaGreatDoor.Q.region_ext (by kernel_rfl) (by kernel_rfl) ?_
   repeat (go_big_quiet_step (fail))
   refine wpQuiet_nil ?_;rintro w9 ⟨pq,rfl⟩;have hb2:=hb1.trans ((below_ext W1 pq).mono hb1.size);have hF2:=HF.out.below hb2;have hK2:Kept (footF gf gr v) w (ext W1 pq):=kept_below _ hb2;obtain⟨u,hu⟩: ∃u,S.used=u:=⟨_,rfl⟩;have HU:=Lib.hid hu;rw[hu]at q2 q3 ⊢;obtain⟨n,hn⟩: ∃n,d.size=n:=⟨_,rfl⟩;have HNN:=Lib.hid hn;have n1:(n:Int)≤4080:=by have:=HN.out;omega
   have u1:(u:Int)≤200000:=by have:=HN.out;omega
   clear d0 d1 d4 d4' t1 t2 q0 q1 q2 hu hn hb1 hb2
   go_wp2_with fail
   rw[HNN.out]
   go_loopw [39] (fun iv wr=> ∃k:Nat,k≤n∧iv= .int .i64 k∧Hid (FrIn wr B gf gr v (laidF S d k))∧Hid (Kept (footF gf gr v) w wr)) (fun iv _=>n-(intOf iv).toNat)
   case atStart=>exact⟨0,by omega,rfl,Lib.hid (by rw[laidF_zero];exact hF2),Lib.hid hK2⟩
   case round=>
    clear hF2 hK2;obtain⟨k,hk,rfl,HT,HK⟩:=hrel;have k0:(0:Int)≤(k:Int):=Int.natCast_nonneg _;by_cases hkn:k<n
    ·have t3:decide ((k:Int)<(n:Int))=true:=decide_eq_true (by omega)
     have t3':decide (k<n)=true:=decide_eq_true hkn;have hpk:u+k<255*S.R:=by have:=HN.out;have:=HNN.out;have:=HU.out;omega
     have ks:=spot_any wr B gf gr (u+k) v (laidF S d k) HT.out HN.out.2.2.1 hpk;rw[show(laidF S d k).R=S.R from rfl]at ks;obtain⟨e1,e2,e3⟩:=div_lt hpk;have HST:=Lib.hid (fun j hj=>laidF_step S d k j (by rw[HU.out];exact hpk) hj);rw[HU.out]at HST;have hi: ∀V,(Instr.index 9 (.string d) (.int .i64 (k:Int))).run Tryz.prog V= .ok (.int .u8 ((sb d k).toNat:Int)) V:=fun V=>idx_at d k (by rw[HNN.out];exact hkn) V;obtain⟨r,hr⟩: ∃r,(u+k)%S.R=r:=⟨_,rfl⟩;obtain⟨c,hc⟩: ∃c,(u+k)/S.R=c:=⟨_,rfl⟩;rw[hr]at ks e1 HST;rw[hc]at ks e2 HST;rw[show((u+k:Nat):Int)=(u:Int)+(k:Int) by omega]at ks;have k1:=fun V=>run_cint (P:=Tryz.prog) (w:=V) 183 3 r (by kernel_rfl) Tryz.underlying3 (by have:=HN.out;omega);have k2:=fun V=>run_cint (P:=Tryz.prog) (w:=V) 183 3 c (by kernel_rfl) Tryz.underlying3 (by omega);have hrr:(r+1)*255≤S.R*255:=Nat.mul_le_mul_right _ e1;have j0:(0:Int)≤(r:Int):=Int.natCast_nonneg _;have j1:(r:Int)<(S.R:Int):=by omega
     have j2:(0:Int)≤(c:Int):=Int.natCast_nonneg _;have j3:(c:Int)<255:=by omega
     clear hr hc e3 hpk
     go_wp2_with fail
     (with_reducible refine(ks).mono ?_);rintro e2' W2 ⟨rfl,hb2⟩
     have HT2:=Lib.hid (HT.out.below hb2);have HK2:=Lib.hid (HK.out.then (by have:=HK.out.size;exact hb2.mono this));have d5:=fun q=>Blk.cell (blk_ext HT2.out.box q) 5 (v:= .slice (some ⟨gr,0,none⟩) S.R S.R) rfl;have d6:=fun q=>(HT2.out.rows.ext q).cell (r*255+c) (by show r*255+c<S.R*255;omega);have d7:=fun q=>(HT2.out.rows.ext q).frozen (r*255+c);clear ks HT HK hb2
     go_wp2_with fail
     refine Go.Proofs.YtibjkhepedfpiaaGreatDoor.Q.region_ext_tail 15 (by kernel_rfl) (by kernel_rfl) ?_;simp only[List.take_succ_cons,List.take_zero,List.drop_succ_cons,List.drop_zero]
     repeat (go_big_quiet_step (fail))
     refine wpQuiet_nil ?_;rintro w9 ⟨pq,rfl⟩;have g1:=d6 pq;have g2:=d7 pq;have hT3:=HT2.out.ext pq;have hkq:Kept (fun j=>j=gr) (ext W2 pq) ((ext W2 pq).setCell ⟨gr,r*255+c,none⟩ (.int .u8 ((sb d k).toNat:Int))):=kept_set (F:=fun j=>j=gr) rfl;have HT9:=Lib.hid (fr_rows (S':=laidF S d (k+1)) hT3 hkq rfl rfl rfl rfl rfl rfl ((hT3.rows.put (r*255+c) (.int .u8 ((sb d k).toNat:Int))).congr (fun j hj=>HST.out j hj)));have HK9:Hid (Kept (footF gf gr v) w ((ext W2 pq).setCell ⟨gr,r*255+c,none⟩ (.int .u8 ((sb d k).toNat:Int)))):=Lib.hid ((HK2.out.then ((below_ext W2 pq).mono HK2.out.size)).trans hkq (fun i _ e=>Or.inr (Or.inl e)));clear HT2 HK2 hT3 hkq d5 d6 d7
     go_wp2_with fail
     go_roundw
     case rel=>exact⟨k+1,by omega,by go_num,HT9,HK9⟩
     case measure=>simp[intOf];omega
    ·obtain rfl:k=n:=by omega
     have t3:decide ((k:Int)<(k:Int))=false:=decide_eq_false (by omega);have t3':decide (k<k)=false:=decide_eq_false (by omega);have c3:=Blk.cell HT.out.box 3 (v:=v) rfl;have hbA:=(Below.refl wr.heap.size wr).alloc (Nat.le_refl _) (.cells #[.int .i64 (u:Int),.string d] 185);have HV:=Lib.hid (HT.out.below hbA);have HKV:=Lib.hid (HK.out.then (hbA.mono HK.out.size));have hb9:=Blk.new wr 185 #[.int .i64 (u:Int),.string d];have HSZ:=Lib.hid (show w.heap.size≤wr.heap.size from HK.out.size);have hlen:S.L.length≤200000:=by have:=HN.out;omega
     have hsz:B≤(wr.alloc (.cells #[.int .i64 (u:Int),.string d] 185)).heap.size:=by have:=HT.out.bt;have:=HT.out.box.lt;simp;omega
     have hov:=HV.out.l;rw[show(laidF S d k).L=S.L from rfl]at hov;clear HT HK hbA
     go_wp2_with (at_builtin;refine ApG.wpList_appG rfl _ _ rfl elemPd rfl hov rfl rfl (blk_news hb9) (by simp[Value.oneCell']) (by omega) (by unfold maxLen;omega) hsz ?_)
     intro v9 W8 hown9 hg9 hat9;obtain⟨av,cv,hvf⟩:=own_form hown9;subst hvf;have b0:Blk W8 gf 178 #[.int .i64 (S.R:Int),.int .i64 (S.C:Int),.int .i64 (S.K:Int),v,.int .i64 (S.used:Int),.slice (some ⟨gr,0,none⟩) S.R S.R,.bool S.old]:=(hg9.block gf HV.out.box.lt (fun e=>HV.out.nt e.symm)).trans HV.out.box;have hr8:Fm W8 gr _ _ _:=HV.out.rows.same (hg9.block gr HV.out.rows.lt (fun e=>HV.out.nr e.symm));have n2:(d.size:Int)≤4080:=by rw[HNN.out];exact n1
     have n3:(0:Int)≤(d.size:Int):=Int.natCast_nonneg _;have f3:=Blk.cell b0 3 (v:=v) rfl;have f3':=Blk.frozen b0 3;have b1:=Blk.set_ b0 3 (.slice av (S.L.length+1) cv);have f4:=Blk.cell b1 4 (v:= .int .i64 (S.used:Int)) rfl;have f4':=Blk.frozen b1 4;have b2:=Blk.set_ b1 4 (.int .i64 ((u:Int)+(d.size:Int)));have f6:=Blk.cell b2 6 (v:= .bool S.old) rfl;have f6':=Blk.frozen b2 6;have b3:=Blk.set_ b2 6 (.bool true)
     have hnt:(Value.slice av (S.L.length+1) cv).ownBlock≠some gf:=fun e=>by
      rcases hat9 with h|h
      ·exact HV.out.nt (h▸e)
      ·rw[h]at e;injection e with e;have h9:=HV.out.box.lt;simp at h9;omega
     have hnr:(Value.slice av (S.L.length+1) cv).ownBlock≠some gr:=fun e=>by
      rcases hat9 with h|h
      ·exact HV.out.nr (h▸e)
      ·rw[h]at e;injection e with e;have h9:=HV.out.rows.lt;simp at h9;omega
     have hset: ∀(V:World) (i:Nat) (x:Value),Kept (fun j=>j=gf) V (V.setCell ⟨gf,i,none⟩ x):=fun V i x=>kept_set (F:=fun j=>j=gf) rfl;have hk3:Kept (fun j=>j=gf) W8 (((W8.setCell ⟨gf,3,none⟩ (.slice av (S.L.length+1) cv)).setCell ⟨gf,4,none⟩ (.int .i64 ((u:Int)+(d.size:Int)))).setCell ⟨gf,6,none⟩ (.bool true)):=((hset _ 3 (.slice av (S.L.length+1) cv)).trans (hset _ 4 _) (fun _ _ h=>h)).trans (hset _ 6 _) (fun _ _ h=>h)
     have hT9:FrIn (((W8.setCell ⟨gf,3,none⟩ (.slice av (S.L.length+1) cv)).setCell ⟨gf,4,none⟩ (.int .i64 ((u:Int)+(d.size:Int)))).setCell ⟨gf,6,none⟩ (.bool true)) B gf gr (.slice av (S.L.length+1) cv) {laidF S d d.size with L:=S.L++[(S.used,d)],used:=S.used+d.size,old:=true}:=by
      refine⟨?_,?_,?_,HV.out.ne,hnt,hnr,HV.out.bt,HV.out.br⟩
      ·rw[show((u:Int)+(d.size:Int))=((S.used+d.size:Nat):Int) by rw[←HU.out];omega]at b3 ⊢
       exact b3
      ·have:=RsA.fm_kept hr8 hk3 (fun e=>HV.out.ne e.symm)
       rw[←HNN.out]at this;exact this
      ·have hl9:W8.ownsRow B 185 2 (.slice av (S.L.length+1) cv) (S.L++[(S.used,d)]).length (flat enPd (S.L++[(S.used,d)])):=by
        rw[flat_app,List.length_append,HU.out];exact hown9
       exact own_kept hl9 hk3 (fun i hi e=>hnt (by rw[hi,e]))
     have hK9:Kept (footF gf gr v) w (((W8.setCell ⟨gf,3,none⟩ (.slice av (S.L.length+1) cv)).setCell ⟨gf,4,none⟩ (.int .i64 ((u:Int)+(d.size:Int)))).setCell ⟨gf,6,none⟩ (.bool true)):=
      (HKV.out.trans (kept_grown (F:=footF gf gr v) hg9 (fun r e=>Or.inr (Or.inr e))) (fun _ _ h=>h)).trans hk3 (fun i _ e=>Or.inl e)
     have hfar:far w v (.slice av (S.L.length+1) cv):=by
      rcases hat9 with h|h
      ·exact Or.inl h
      ·exact Or.inr ⟨_,h,by have:=HSZ.out;simp;omega⟩
     have HT9:=Lib.hid hT9;have HK9:=Lib.hid hK9;clear hov hb9 hown9 hg9 hat9 b0 hr8 b1 b2 b3 hnt hnr hset hk3 hT9 hK9 HV HKV c3
     go_wp2_with fail
     go_ret2
     exact⟨by rw[HU.out];rfl,.slice av (S.L.length+1) cv,by rw[HS.out];exact HT9.out,hfar,HK9.out⟩
 ·have HE:=Lib.hid (show addE S d=E by rw[HEd.out,if_pos hE0])
  have HS:=Lib.hid (show addS S d=S from if_pos (by rw[HE.out];exact hE0));have HEZ:=Lib.hid (show(if addE S d=0 then(S.used:Int)else 0)=0 from if_neg (by rw[HE.out];exact hE0));rw[HEZ.out,HE.out];have t0:(E==0)=false:=by simpa using hE0
  have t0':(E !=0)=true:=by simpa using hE0
  clear h hok HEd HDS hE0
  go_enter Tryz.func49,Tryz.ntmps49
  go_wp2_with fail
  (with_reducible refine(kd _).mono ?_);rintro e1 W1 ⟨rfl,hb1⟩
  clear kd
  go_wp2_with fail
  go_ret2
  exact⟨v,rfl,by rw[HS.out];exact HF.out.below hb1,Or.inl rfl,kept_below _ hb1⟩
theorem clone_any (w:World) (B n:Nat) (v:Value) (L:List (Nat×ByteArray)) (hL:L.length=n) (hn:n≤200000) (h:w.ownsRow B 185 2 v n (flat enPd L)):
 Calls Tryz.prog 120 #[v] w fun e w'=>Below w.heap.size w w'∧ ∃v',e= .returned v'∧w'.ownsRow w.heap.size 185 2 v' n (flat enPd L):=by
 obtain⟨R,hR⟩: ∃R:Ending→World→Prop,R=(fun e w'=>Below w.heap.size w w'∧ ∃v',e= .returned v'∧w'.ownsRow w.heap.size 185 2 v' n (flat enPd L)):=⟨_,rfl⟩;rw[←hR];have HR:=Lib.hid hR;clear hR;rcases h.2 with⟨rfl,h0⟩|⟨g,cap,cur,rfl,hBg,hg,hc⟩
 ·have HL:L=[]:=List.eq_nil_of_length_eq_zero (by omega)
  subst HL;clear h;have he:=fun V=>run_eql_slice_nil (P:=Tryz.prog) V 176 185 none 0 0 Tryz.underlying176
  go_enter Tryz.func120,Tryz.ntmps120
  go_wp2_with fail
  rw[HR.out];exact⟨Below.refl _ _,_,rfl,by rw[h0];exact World.ownsRow_nil _ _ _ _⟩
 ·have hsq:=own_seq enPd_len h hL
  have hbA:=(Below.refl w.heap.size w).alloc (Nat.le_refl _) (.cells #[] 185);have hs2:=hsq.below (Nat.le_refl _) hbA
  have hown0:(w.alloc (.cells #[] 185)).ownsRow w.heap.size 185 2 (.slice (some ⟨w.heap.size,0,none⟩) 0 0) 0 (flat enPd []):=
   ⟨rfl,Or.inr ⟨w.heap.size,0,#[],rfl,Nat.le_refl _,heap_alloc_new w _,Nat.le_refl _,Nat.zero_le _,rfl,rfl⟩⟩
  have HHO:=Lib.hid h;have he:=fun V=>run_eql_slice_nil (P:=Tryz.prog) V 176 185 (some ⟨g,0,none⟩) n cap Tryz.underlying176;clear h hg hc hsq
  go_enter Tryz.func120,Tryz.ntmps120
  go_wp2_with (at_builtin;refine wpList_appS (A:=[]) (L:=L) (n:=0) (m:=n) rfl _ _ rfl enPd_len (fun x u hu=>by simp only[enPd,List.mem_cons,List.not_mem_nil,or_false]at hu;rcases hu with rfl|rfl<;>rfl) elemPd rfl rfl hown0 rfl hL (fun e=>by cases e) hs2 (fun a' e=>⟨g,0,by injection e with e;exact e.symm⟩) (by omega) (by unfold maxLen;omega) (by simp) ?_)
  intro v9 W8 hown9 hb8;have hb9:=hbA.trans hb8;have HO9:=Lib.hid hown9;clear hown0 hs2 hown9
  go_wp2_with fail
  rw[HR.out];exact⟨hb9,_,rfl,HO9.out⟩
theorem placed_any (w:World) (B gf gr:Nat) (v:Value) (S:Fr) (h:FrIn w B gf gr v S) (hok:OkF S):
 Calls Tryz.prog 89 #[.pointer (some ⟨gf,0,none⟩)] w fun e w'=>Below w.heap.size w w'∧ ∃v',e= .returned v'∧w'.ownsRow w.heap.size 185 2 v' S.L.length (flat enPd S.L):=by
 obtain⟨R,hR⟩: ∃R:Ending→World→Prop,R=(fun e w'=>Below w.heap.size w w'∧ ∃v',e= .returned v'∧w'.ownsRow w.heap.size 185 2 v' S.L.length (flat enPd S.L)):=⟨_,rfl⟩;rw[←hR];have HR:=Lib.hid hR;clear hR;have c3:=Blk.cell h.box 3 (v:=v) rfl;have h1:S.R*S.C≤1024*191:=Nat.mul_le_mul hok.R hok.C;have kc:=clone_any w B S.L.length v S.L rfl (by have:=hok.n;have:=hok.u;omega) h.l;clear h hok h1
 go_enter Tryz.func89,Tryz.ntmps89
 go_wp2_with fail
 (with_reducible refine(kc).mono ?_);rintro e1 W1 ⟨hb1,v',rfl,hown⟩
 clear kc
 go_wp2_with fail
 rw[HR.out];exact⟨hb1,_,rfl,hown⟩
end Go.Proofs.YtibjkhepedfpiaaGreatDoor.FrB
namespace Go.Proofs.YtibjkhepedfpiaaGreatDoor.FrC
open Go Go.RowKit Q Mem Rg Ap ApG St BiW BiG CrB Scp TlS TbM TbN TbP RsP FrA FrB
set_option maxRecDepth 100000
def rowL (S:Fr) (r:Nat):List UInt8:=(List.range 191).map (S.D r)
def frI (S:Fr) (i:Nat):Fr:={S with D:=fun r c=>if r<i∧191≤c then(enc (rowL S r)).getD (c-191) 0 else S.D r c}
def freshS (S:Fr):Fr:=if S.old then {frI S S.R with old:=false}else S
theorem frI_zero (S:Fr):frI S 0=S:=by
 unfold frI;have h: ∀r c:Nat,¬(r<0∧191≤c):=fun r c=>by omega
 simp only[h,if_false]
theorem frI_data (S:Fr) (i r c:Nat) (hc:c<191):(frI S i).D r c=S.D r c:=if_neg (by omega)
theorem byteCells_at (l:List UInt8) (k:Nat):(Lib.byteCells l)[k]? =(l[k]?).map u8v:=by
 unfold Lib.byteCells;rw[List.getElem?_map];rfl
theorem copy_par (w:World) (g R i:Nat) (S:Fr) (h:Fm w g 182 (R*255) (frF (frI S i))) (hi:i<R) (hS:S.R=R):
 ∃w',Fm w' g 182 (R*255) (frF (frI S (i+1)))∧Kept (fun j=>j=g) w w'∧
  (Builtin.copy_ #[90,9] 3 #[.slice (some ⟨g,i*255+191,none⟩) 64 64,.string (str (enc (rowL S i)))]).run Tryz.prog w= .ok (goInt 64) w':=by
 obtain⟨cur,h1,h2,h3⟩:=h;have hle:(i+1)*255≤R*255:=Nat.mul_le_mul_right _ hi;have hel:(enc (rowL S i)).length=64:=enc_len _;have hr:=Lib.run_copy_row_string (P:=Tryz.prog) w 90 9 3 5 g (i*255+191) 64 64 (str (enc (rowL S i))) cur 182 Tryz.underlying90 (by kernel_rfl) h1 (by rw[str_size,hel];exact Nat.le_refl _) (by rw[str_size,hel];omega);rw[str_size,hel,show(str (enc (rowL S i))).data.toList=enc (rowL S i)from rfl]at hr;have hbl:(Lib.byteCells (enc (rowL S i))).length=64:=by rw[Lib.byteCells,List.length_map,hel]
 have hts:(cur.toList.take (i*255+191)).length=i*255+191:=by rw[List.length_take,Array.length_toList];omega
 refine⟨_,⟨_,setRow_heap w g cur _ _ _ h1,?_,fun k hk=>?_⟩,?_,hr⟩
 ·simp[hbl];omega
 ·show _=some (frF (frI S (i+1)) k)
  rw[List.getElem?_toArray,List.append_assoc];have h3k:=h3 k hk;have hq:k/255<R:=(Nat.div_lt_iff_lt_mul (by decide)).2 hk;rcases Nat.lt_or_ge k (i*255+191)with hlo|hlo
  ·rw[List.getElem?_append_left (by rw[hts];exact hlo),List.getElem?_take_of_lt hlo,Array.getElem?_toList,h3k]
   unfold frF frI;dsimp only
   congr 2
   by_cases hc:k/255<i∧191≤k%255
   ·rw[if_pos hc,if_pos (by omega)]
   ·rw[if_neg hc,if_neg (by omega)]
  ·rw[List.getElem?_append_right (by rw[hts];exact hlo),hts]
   rcases Nat.lt_or_ge k (i*255+255)with hmi|hmi
   ·rw[List.getElem?_append_left (by rw[hbl];omega),byteCells_at,List.getElem?_eq_getElem (by rw[hel];omega)]
    unfold frF frI;dsimp only;have e1:k/255=i:=by omega
    have e2:k%255-191=k-(i*255+191):=by omega
    rw[if_pos (by omega),e1,e2,List.getD_eq_getElem?_getD,List.getElem?_eq_getElem (by rw[hel];omega)];rfl
   ·rw[List.getElem?_append_right (by rw[hbl];omega),hbl,List.getElem?_drop,show i*255+191+64+(k-(i*255+191)-64)=k by omega,Array.getElem?_toList,h3k]
    unfold frF frI;dsimp only
    congr 2
    rw[if_neg (by omega),if_neg (by omega)]
 ·exact⟨rfl,rfl,rfl,by simp[World.setRow],fun j _ hn=>by simp[World.setRow,Array.getElem?_modify,Ne.symm hn]⟩
theorem conv_part {w:World} {t:TypeId} {b off n cap N:Nat} {f:Nat→Value} {F:Nat→UInt8} (h:Fm w b t N f) (hf: ∀k,k<n→off+k<N∧f (off+k)=u8v (F k)):(convert 90 9 (.slice (some ⟨b,off,none⟩) n cap)).run Tryz.prog w= .ok (.string (str ((List.range n).map F))) w:=by
 have:=run_convert_bytes_arg (P:=Tryz.prog) w 90 5 Tryz.underlying90 Tryz.underlying5 b off n cap ((List.range n).map fun i=>((F i).toNat:Int)) (by simp) (fun i hi=>by
  rw[h.cell (off+i) (hf i hi).1,(hf i hi).2];simp[u8v,hi]) 9 Tryz.underlying9
 rw[this,nums_str]
 congr 3
 simp
def tm (a:Act) (k:Nat):Value:=a.tmps.getD k undef
def frN (gf i:Nat) (u:Nat→Value):Act:={tmps:= #[.pointer (some ⟨gf,0,none⟩),u 1,.int .i64 (i:Int),u 3,u 4,u 5,u 6,u 7,u 8,u 9,u 10,u 11,u 12,u 13,u 14,u 15,u 16,u 17,u 18,u 19,u 20,u 21,u 22,u 23,u 24,u 25,u 26,u 27,u 28,u 29,u 30,u 31,u 32,u 33,u 34,u 35,u 36,u 37,u 38,u 39,u 40,u 41,u 42,u 43],defers:=[]}
def J0 (w:World) (B gf gr:Nat) (v:Value) (S:Fr) (a:Act) (W:World):Prop:=
 ∃(u:Nat→Value) (i:Nat),a=frN gf i u∧i≤S.R∧(S.old=false→i=0)∧FrIn W B gf gr v (frI S i)∧Kept (footF gf gr v) w W
theorem j0_intro {w W:World} {B gf gr i:Nat} {v:Value} {S:Fr} {a:Act} (h:a=frN gf i (tm a)) (hi:i≤S.R) (h0:S.old=false→i=0) (hF:FrIn W B gf gr v (frI S i)) (hK:Kept (footF gf gr v) w W):J0 w B gf gr v S a W:=⟨tm a,i,h,hi,h0,hF,hK⟩
def num (v:Value):Nat:=match v with| .int _ i=>i.toNat|_=>0
set_option maxHeartbeats 3200000 in
theorem fresh_any (w:World) (B gf gr:Nat) (v:Value) (S:Fr) (h:FrIn w B gf gr v S) (hok:OkF S):
 Calls Tryz.prog 119 #[.pointer (some ⟨gf,0,none⟩)] w fun e w'=>e= .returned (.tuple #[])∧FrIn w' B gf gr v (freshS S)∧Kept (footF gf gr v) w w':=by
 obtain⟨R,hR⟩: ∃R:Ending→World→Prop,R=(fun e w'=>e= .returned (.tuple #[])∧FrIn w' B gf gr v (freshS S)∧Kept (footF gf gr v) w w'):=⟨_,rfl⟩;rw[←hR];have HR:=Lib.hid hR;have HH:=Lib.hid h;have HN:=Lib.hid (And.intro hok.R hok.R0);clear hR h hok
 go_enter Tryz.func119,Tryz.ntmps119
 go_wp2_with fail
 refine wp_scope_one 0 (J0 w B gf gr v S) (fun a _=>S.R+1-num (a.tmps.getD 2 undef)) rfl ?_ ?_
 ·rintro a1 W ⟨u,i,rfl,hi,hi0,hF,hK⟩
  have HF:=Lib.hid hF;have HK:=Lib.hid hK;have c5:=Blk.cell hF.box 5 (v:= .slice (some ⟨gr,0,none⟩) S.R S.R) rfl;have c6:=Blk.cell hF.box 6 (v:= .bool S.old) rfl;have g6:=Blk.frozen hF.box 6;have b6:=Blk.set_ hF.box 6 (.bool false);have hk6:Kept (fun j=>j=gf) W (W.setCell ⟨gf,6,none⟩ (.bool false)):=kept_set (F:=fun j=>j=gf) rfl;have HE:Hid (FrIn (W.setCell ⟨gf,6,none⟩ (.bool false)) B gf gr v {frI S i with old:=false}):=Lib.hid ⟨b6,RsA.fm_kept hF.rows hk6 (fun e=>hF.ne e.symm),own_kept hF.l hk6 (fun j hj e=>hF.nt (by rw[hj,e])),hF.ne,hF.nt,hF.nr,hF.bt,hF.br⟩;have HKE:=Lib.hid (hK.trans hk6 (fun j _ e=>Or.inl e));have HFS:=Lib.hid (show freshS S=if S.old then {frI S S.R with old:=false}else S from rfl);obtain⟨o,ho⟩: ∃o,S.old=o:=⟨_,rfl⟩;have HO:=Lib.hid ho;rw[ho]at c6 HFS;unfold frN;clear hF hK b6 hk6 ho;have k0:(0:Int)≤(i:Int):=Int.natCast_nonneg _
  cases o with
  |false=>
   have HI:=Lib.hid (hi0 HO.out);clear hi0
   go_wp2_with fail
   simp only[Exit.jump]
   go_end0
   rw[HR.out];refine⟨rfl,?_,HKE.out⟩;rw[HFS.out,if_neg (by decide)];have hE:=HE.out
   have hx:({frI S i with old:=false}:Fr)=S:=by
    rw[HI.out,frI_zero]
    cases S
    simp only at HO;rw[HO.out]
   rw[hx]at hE;exact hE
  |true=>
   by_cases hin:i<S.R
   ·have t0:((i:Int)==(S.R:Int))=false:=beq_eq_false_iff_ne.2 (by omega)
    have k1:(i:Int)<(S.R:Int):=by omega
    have k2:(S.R:Int)≤1024:=by have:=HN.out.1;omega
    have hle:(i+1)*255≤S.R*255:=Nat.mul_le_mul_right _ hin;have kcv:=conv_part (cap:=255) (off:=i*255) (n:=191) (F:=S.D i) HF.out.rows (fun k hk=>⟨by show i*255+k<S.R*255;omega,by rw[frF_at _ _ _ (by omega),frI_data S i i k hk]⟩);have kEn:=fun V=>RsA.encode_any (str (rowL S i)) V (by rw[str_size,rowL];simp);rw[bl_str]at kEn;have HRL:=Lib.hid (show(List.range 191).map (S.D i)=rowL S i from rfl);rw[HRL.out]at kcv;obtain⟨q,hq⟩: ∃q,str (rowL S i)=q:=⟨_,rfl⟩;have HQ:=Lib.hid hq;rw[hq]at kcv kEn;clear hq hi0 hle
    go_wp2_with fail
    (with_reducible refine(kEn _).mono ?_);rintro e1 W1 ⟨rfl,hb1⟩
    have HF1:=Lib.hid (HF.out.below hb1);have HK1:=Lib.hid (HK.out.then (hb1.mono HK.out.size));obtain⟨W2,hr2,hk2,hcp⟩:=copy_par W1 gr S.R i S HF1.out.rows hin rfl;have HF2:Hid (FrIn W2 B gf gr v (frI S (i+1))):=Lib.hid (fr_rows HF1.out hk2 rfl rfl rfl rfl rfl rfl hr2);have HK2:=Lib.hid (HK1.out.trans hk2 (fun j _ e=>Or.inr (Or.inl e)));obtain⟨z,hz⟩: ∃z,str (enc (rowL S i))=z:=⟨_,rfl⟩;rw[hz]at hcp ⊢;clear kEn kcv hb1 hr2 hk2 hz c5 c6 g6
    go_wp2_with fail
    go_step3
    refine⟨rfl,j0_intro (i:=i+1) (by kernel_rfl) (by omega) (fun e=>by rw[HO.out]at e;cases e) HF2.out HK2.out,?_⟩;show S.R+1-((i:Int)+1).toNat<S.R+1-((i:Nat):Int).toNat;omega
   ·have hiR:i=S.R:=by omega
    have t0:((i:Int)==(S.R:Int))=true:=by rw[hiR];simp
    have HI:=Lib.hid hiR;clear hin hiR hi0
    go_wp2_with fail
    simp only[Exit.jump]
    go_end0
    rw[HR.out];refine⟨rfl,?_,HKE.out⟩;rw[HFS.out,if_pos trivial,←HI.out];exact HE.out
 ·intro b0
  go_wp2_with fail
  go_step3
  rename_i hK;refine hK _ _ ?_;exact b0 _ _ (j0_intro (i:=0) (by kernel_rfl) (by omega) (fun _=>rfl) (by rw[frI_zero];exact HH.out) (Kept.refl _ _))
def colS (S:Fr) (n:Nat):List UInt8:=(List.range S.R).map (fun r=>S.D r n)
theorem fresh_R (S:Fr):(freshS S).R=S.R:=by unfold freshS;split<;>rfl
theorem mk_room (R:Nat) (hR:R≤1024) (V:World): ∃A:Array Value,(Instr.makeSlice 90 (.int .i64 0) (.int .i64 (R:Int))).run Tryz.prog V= .ok (.slice (some ⟨V.heap.size,0,none⟩) 0 R) (V.alloc (.cells A 5))∧(V.alloc (.cells A 5)).ownsRow V.heap.size 5 1 (.slice (some ⟨V.heap.size,0,none⟩) 0 R) 0 (u8s []):=by
 have hinfo:(Tryz.prog.info? 5).map (fun i=>(i.zero,i.size,i.bytes))=some (some (.int .u8 0),1,1):=by kernel_rfl
 cases hi:Tryz.prog.info? 5 with
 |none=>have h:=hinfo;rw[hi]at h;cases h
 |some i=>
  have h:=hinfo;rw[hi]at h;simp only[Option.map_some,Option.some.injEq,Prod.mk.injEq]at h;obtain⟨h1,h2,h3⟩:=h;have hr:=run_make (P:=Tryz.prog) V 90 5 i (.int .u8 0) Tryz.underlying90 hi h1 .i64 .i64 0 R (by omega) (by omega) (by rw[h3];omega) (by omega);rw[h2]at hr;refine⟨_,hr,rfl,Or.inr ⟨V.heap.size,R,_,rfl,Nat.le_refl _,heap_alloc_new V _,Nat.zero_le _,by unfold maxLen;omega,?_,rfl⟩⟩;simp[size_madeCells]
set_option maxHeartbeats 3200000 in
theorem column_any (w:World) (B gf gr n:Nat) (v:Value) (S:Fr) (h:FrIn w B gf gr v S) (hok:OkF S) (hn:191≤n) (hn2:n<255):
 Calls Tryz.prog 88 #[.pointer (some ⟨gf,0,none⟩),.int .i64 (n:Int)] w fun e w'=>e= .returned (.tuple #[.string (str (colS (freshS S) n)),.int .i64 0])∧FrIn w' B gf gr v (freshS S)∧Kept (footF gf gr v) w w':=by
 have kf:=fresh_any w B gf gr v S h hok;have hR:=hok.R;have hRR:=fresh_R S;obtain⟨S',hS'⟩: ∃S',freshS S=S':=⟨_,rfl⟩;rw[hS']at kf hRR ⊢;rw[←hRR]at hR;clear hS' hRR hok h;have t1:decide ((n:Int)<0)=false:=decide_eq_false (by omega);have t2:decide (255≤(n:Int))=false:=decide_eq_false (by omega);have t3:decide (191≤(n:Int))=true:=decide_eq_true (by omega);have n0:(0:Int)≤(n:Int):=Int.natCast_nonneg _;have n1:(n:Int)<255:=by omega
 have HR:=Lib.hid hR
 go_enter Tryz.func88,Tryz.ntmps88
 go_wp2_with fail
 (with_reducible refine(kf).mono ?_);rintro e1 W1 ⟨rfl,hF1,hK1⟩
 obtain⟨A,hmk,hown0⟩:=mk_room S'.R HR.out W1;have HF1:=Lib.hid hF1;have HK1:=Lib.hid hK1;have c5:=Blk.cell hF1.box 5 (v:= .slice (some ⟨gr,0,none⟩) S'.R S'.R) rfl;have c5':=Blk.cell (Blk.alloc hF1.box (.cells A 5)) 5 (v:= .slice (some ⟨gr,0,none⟩) S'.R S'.R) rfl;have hbA:=(Below.refl W1.heap.size W1).alloc (Nat.le_refl _) (.cells A 5);clear kf hF1 hK1
 go_wp2_with fail
 go_loopw [6,34] (fun ov iv W=> ∃k:Nat,k≤S'.R∧iv= .int .i64 k∧W.ownsRow W1.heap.size 5 1 ov k (u8s ((List.range k).map (fun r=>S'.D r n)))∧Below W1.heap.size W1 W) (fun _ iv _=>S'.R-(intOf iv).toNat)
 case atStart=>exact⟨0,by omega,rfl,hown0,hbA⟩
 case round=>
  clear hown0 hbA c5 c5' hmk;obtain⟨k,hk,rfl,hown,hb⟩:=hrel;have k0:(0:Int)≤(k:Int):=Int.natCast_nonneg _;by_cases hkn:k<S'.R
  ·have t4:decide ((k:Int)<(S'.R:Int))=true:=decide_eq_true (by omega)
   have t4':decide (k<S'.R)=true:=decide_eq_true hkn;have hFr:=HF1.out.below hb;have hle:(k+1)*255≤S'.R*255:=Nat.mul_le_mul_right _ hkn;have d5:=Blk.cell hFr.box 5 (v:= .slice (some ⟨gr,0,none⟩) S'.R S'.R) rfl;have d6:=hFr.rows.cell (k*255+n) (by omega);rw[frF_at _ _ _ hn2,u8v]at d6;have HS:=Lib.hid (show u8s ((List.range (k+1)).map (fun r=>S'.D r n))=u8s ((List.range k).map (fun r=>S'.D r n))++[.int .u8 ((S'.D k n).toNat:Int)] by simp[List.range_succ,u8s,u8v]);obtain⟨x,hx⟩: ∃x,(S'.D k n).toNat=x:=⟨_,rfl⟩;rw[hx]at d6 HS;have hb9:=Blk.new wr 5 #[.int .u8 (x:Int)];have hown2:=own_below hown ((Below.refl wr.heap.size wr).alloc (Nat.le_refl _) (.cells #[.int .u8 (x:Int)] 5));have hsz2:W1.heap.size≤(wr.alloc (.cells #[.int .u8 (x:Int)] 5)).heap.size:=by have:=hb.size;simp;omega
   have hb2:=hb.alloc hb.size (.cells #[.int .u8 (x:Int)] 5);have k1:(k:Int)<(S'.R:Int):=by omega
   have k2:(S'.R:Int)≤1024:=by have:=HR.out;omega
   clear hown hb hFr hle hx
   go_wp2_with (at_builtin;refine wpList_app rfl _ _ rfl elemB rfl hown2 rfl rfl (blk_news hb9) (by simp[Value.oneCell']) (by omega) (by unfold maxLen;omega) hsz2 ?_)
   intro v9 w8 hown9 hb8;have hb3:=hb2.trans hb8;clear hown2 hb9 hb2 hb8
   go_wp2_with fail
   go_roundw
   case rel=>exact⟨k+1,by omega,by go_num,by rw[HS.out];exact hown9,hb3⟩
   case measure=>simp[intOf];omega
  ·obtain rfl:k=S'.R:=by omega
   have t4:decide ((S'.R:Int)<(S'.R:Int))=false:=decide_eq_false (by omega);have t4':decide (S'.R<S'.R)=false:=decide_eq_false (by omega);obtain⟨a1,c1,rfl⟩:=own_form hown;have kc:=own_u8 hown (by simp);rw[show(List.range S'.R).map (fun r=>S'.D r n)=colS S' n from rfl]at kc;have HF2:=Lib.hid (HF1.out.below hb);have HK2:=Lib.hid (HK1.out.then (hb.mono HK1.out.size));clear hown hb
   go_wp2_with fail
   go_ret2
   exact⟨rfl,HF2.out,HK2.out⟩
theorem fresh_ok {S:Fr} (h:OkF S):OkF (freshS S):=by
 unfold freshS
 split
 ·exact⟨h.R,h.R0,h.C,h.u,h.n⟩
 ·exact h
theorem fresh_two (S:Fr):freshS (freshS S)=freshS S:=by
 have h:(freshS S).old=false:=by
  unfold freshS
  split
  ·rfl
  ·rename_i h;simpa using h
 rw[freshS,if_neg (by rw[h];decide)]
theorem fresh_K (S:Fr):(freshS S).K=S.K:=by unfold freshS;split<;>rfl
theorem elemPS:Elem Tryz.prog 34 9 1 16:=elem_of Tryz.underlying34 (z:= .string ByteArray.empty) (by kernel_rfl) rfl (by decide)
def parL (S:Fr) (k:Nat):List ByteArray:=(List.range k).map fun i=>str (colS (freshS S) (191+i))
def parS (S:Fr) (k:Nat):Fr:=if k=0 then S else freshS S
theorem par_ok {S:Fr} (h:OkF S) (k:Nat):OkF (parS S k):=by
 unfold parS
 split
 ·exact h
 ·exact fresh_ok h
theorem par_fresh (S:Fr) (k:Nat):freshS (parS S k)=freshS S:=by
 unfold parS
 split
 ·rfl
 ·exact fresh_two S
theorem par_K (S:Fr) (k:Nat):(parS S k).K=S.K:=by
 unfold parS
 split
 ·rfl
 ·exact fresh_K S
set_option maxHeartbeats 3200000 in
theorem parity_any (w:World) (B gf gr:Nat) (v:Value) (S:Fr) (h:FrIn w B gf gr v S) (hok:OkF S) (hK64:S.K≤64):
 Calls Tryz.prog 52 #[.pointer (some ⟨gf,0,none⟩)] w fun e w'=>FrIn w' B gf gr v (parS S (64-S.K))∧Kept (footF gf gr v) w w'∧ ∃v',e= .returned v'∧w'.ownsRow w.heap.size 9 1 v' (64-S.K) (flat enS (parL S (64-S.K))):=by
 obtain⟨R,hR⟩: ∃R:Ending→World→Prop,R=(fun e w'=>FrIn w' B gf gr v (parS S (64-S.K))∧Kept (footF gf gr v) w w'∧ ∃v',e= .returned v'∧w'.ownsRow w.heap.size 9 1 v' (64-S.K) (flat enS (parL S (64-S.K)))):=⟨_,rfl⟩;rw[←hR];have HR:=Lib.hid hR;have HH:=Lib.hid h;have HOK:=Lib.hid hok;have HFT:=Lib.hid (FrIn.ge h);clear hR h hok
 go_enter Tryz.func52,Tryz.ntmps52
 go_wp2_with fail
 go_loopw [3,4] (fun ov nv W=> ∃k:Nat,k≤64-S.K∧nv= .int .i64 (191+(k:Int))∧FrIn W B gf gr v (parS S k)∧Kept (footF gf gr v) w W∧W.ownsRow w.heap.size 9 1 ov k (flat enS (parL S k))) (fun _ nv _=>255-(intOf nv).toNat)
 case atStart=>exact⟨0,by omega,rfl,HH.out,Kept.refl _ _,World.ownsRow_nil _ _ _ _⟩
 case round=>
  obtain⟨k,hk,rfl,hF,hKe,hown⟩:=hrel;have k0:(0:Int)≤(k:Int):=Int.natCast_nonneg _;have k1:(k:Int)≤64:=by omega
  have c2:=Blk.cell hF.box 2 (v:= .int .i64 ((parS S k).K:Int)) rfl;rw[par_K]at c2;have s0:(0:Int)≤(S.K:Int):=Int.natCast_nonneg _;have s1:(S.K:Int)≤64:=by omega
  by_cases hkn:k<64-S.K
  ·have t0:decide (191+(k:Int)<255-(S.K:Int))=true:=decide_eq_true (by omega)
   have kc:=column_any wr B gf gr (191+k) v (parS S k) hF (par_ok HOK.out k) (by omega) (by omega);rw[par_fresh,show((191+k:Nat):Int)=191+(k:Int) by omega]at kc;have HF:=Lib.hid hF;have HKe:=Lib.hid hKe;have HO:=Lib.hid hown;have HPL:=Lib.hid (show flat enS (parL S (k+1))=flat enS (parL S k)++[.string (str (colS (freshS S) (191+k)))] by unfold parL flat;rw[List.range_succ,List.map_append,List.flatMap_append];rfl);obtain⟨q,hq⟩: ∃q,str (colS (freshS S) (191+k))=q:=⟨_,rfl⟩;rw[hq]at kc HPL;clear hF hKe hown hq
   go_wp2_with fail
   (with_reducible refine(kc).mono ?_);rintro e1 W1 ⟨rfl,hF1,hK1⟩
   have hne: ∀j,u3.ownBlock=some j→ ¬footF gf gr v j:=fun j hj hf=>by
    have h1:=(HFT.out j hf).2;have h2:=(HO.out.lt j hj).1;omega
   have hown1:=own_kept HO.out hK1 hne;have HF1:Hid (FrIn W1 B gf gr v (parS S (k+1))):=Lib.hid (by rw[parS,if_neg (by omega)];exact hF1);have HK1:=Lib.hid (HKe.out.trans hK1 (fun _ _ h=>h));have hb9:=Blk.new W1 9 #[.string q];have hbA:=(Below.refl W1.heap.size W1).alloc (Nat.le_refl _) (.cells #[.string q] 9);have hown2:=own_below hown1 hbA;have hsz2:w.heap.size≤(W1.alloc (.cells #[.string q] 9)).heap.size:=by have:=HK1.out.size;simp;omega
   have HF2:=Lib.hid (HF1.out.below hbA);have HK2:=Lib.hid (HK1.out.then (hbA.mono HK1.out.size));clear kc hF1 hK1 hne hown1 hbA c2
   go_wp2_with (at_builtin;refine ApG.wpList_appG rfl _ _ rfl elemPS rfl hown2 rfl rfl (blk_news hb9) (by simp[Value.oneCell']) (by omega) (by unfold maxLen;omega) hsz2 ?_)
   intro v9 w8 hown9 hg8 hat8;have hk8:Kept (fun j=>u3.ownBlock=some j) _ w8:=kept_grown hg8 (fun r e=>e)
   have HF3:=Lib.hid (HF2.out.kept hk8 (fun j hf e=>by
    have h1:=(HFT.out j hf).2;have h2:=(HO.out.lt j e).1;omega))
   have HK3:Hid (Kept (footF gf gr v) w w8):=Lib.hid ⟨hg8.os.trans HK2.out.os,hg8.tape.trans HK2.out.tape,hg8.output.trans HK2.out.output,Nat.le_trans HK2.out.size hg8.size,fun j hj hn=>(hg8.block j (by have:=HK2.out.size;omega) (fun e=>by have:=(HO.out.lt j e.symm).1;omega)).trans (HK2.out.block j hj hn)⟩;clear hown2 hb9 hg8 hat8 hk8
   go_wp2_with fail
   go_roundw
   case rel=>exact⟨k+1,by omega,by go_num,HF3.out,HK3.out,by rw[HPL.out];exact hown9⟩
   case measure=>simp[intOf];omega
  ·obtain rfl:k=64-S.K:=by omega
   have t0:decide (191+((64-S.K:Nat):Int)<255-(S.K:Int))=false:=decide_eq_false (by omega);have HX:=Lib.hid (And.intro hF (And.intro hKe hown));obtain⟨m,hm⟩: ∃m,64-S.K=m:=⟨_,rfl⟩;rw[hm]at t0 k1 k0 ⊢;clear hF hKe hown
   go_wp2_with fail
   rw[HR.out];exact⟨HX.out.1,HX.out.2.1,_,rfl,HX.out.2.2⟩
end Go.Proofs.YtibjkhepedfpiaaGreatDoor.FrC
