import Derived.WalkKit
namespace Go.Proofs.YtibjkhepedfpiaaGreatDoor.GfP
def dbl (x:UInt8):UInt8:=if 128≤x.toNat then(x+x)^^^29 else x+x
def ex:Nat→UInt8
 |0=>1
 |n+1=>dbl (ex n)
def logI:Nat→UInt8→Nat
 |0,_=>0
 |i+1,a=>if a=ex i then i else logI i a
def lg (a:UInt8):Nat:=logI 255 a
def gm (a b:UInt8):UInt8:=if a=0∨b=0 then 0 else ex (lg a+lg b)
def gi (a:UInt8):UInt8:=if a=0 then 0 else ex (255-lg a)
def exL:Nat→UInt8→List UInt8
 |0,_=>[]
 |n+1,x=>x::exL n (dbl x)
theorem exL_get: ∀(n i k:Nat),i<n→(exL n (ex k))[i]? =some (ex (k+i))
 |0,i,k,h=>by omega
 |n+1,0,k,h=>rfl
 |n+1,i+1,k,h=>by
  rw[exL,List.getElem?_cons_succ,show dbl (ex k)=ex (k+1)from rfl,exL_get n i (k+1) (by omega)]
  congr 2
  omega
theorem exL_len: ∀(n:Nat) (x:UInt8),(exL n x).length=n
 |0,_=>rfl
 |n+1,x=>by rw[exL,List.length_cons,exL_len]
def nodupB:List Nat→Bool
 |[]=>true
 |a::t=>t.all (fun b=> !(a==b))&&nodupB t
theorem nodup_of: ∀{l:List Nat},nodupB l=true→l.Nodup
 |[],_=>List.nodup_nil
 |a::t,h=>by
  simp only[nodupB,Bool.and_eq_true,List.all_eq_true,Bool.not_eq_true',beq_eq_false_iff_ne]at h;exact List.nodup_cons.2 ⟨fun hm=>h.1 a hm rfl,nodup_of h.2⟩
set_option maxRecDepth 100000
theorem L_nodup:((exL 255 1).map UInt8.toNat).Nodup:=nodup_of (by decide+kernel)
theorem L_all:((List.range 255).all fun i=>((exL 255 1).map UInt8.toNat).contains (i+1))=true:=by decide+kernel
theorem L_pos:(((exL 255 1).map UInt8.toNat).all fun x=> !(x==0))=true:=by decide+kernel
theorem ex_last:ex 255=1:=by decide+kernel
theorem L_get (i:Nat) (h:i<255):((exL 255 1).map UInt8.toNat)[i]? =some (ex i).toNat:=by
 rw[List.getElem?_map,show(1:UInt8)=ex 0 from rfl,exL_get 255 i 0 h,Nat.zero_add];rfl
theorem ex_inj {i j:Nat} (hi:i<255) (hj:j<255) (h:ex i=ex j):i=j:=by
 have h1:=L_get i hi;have h2:=L_get j hj;rw[h]at h1;exact(List.getElem?_inj (by rw[List.length_map,exL_len];exact hi) L_nodup).1 (h1.trans h2.symm)
theorem ex_per (n:Nat):ex (n+255)=ex n:=by
 induction n with
 |zero=>rw[Nat.zero_add,ex_last];rfl
 |succ n ih=>rw[show n+1+255=(n+255)+1 by omega,ex,ih,ex]
theorem ex_mod (n:Nat):ex (n%255)=ex n:=by
 have: ∀k m:Nat,ex (m+255*k)=ex m:=fun k=>by
  induction k with
  |zero=>intro m;rfl
  |succ k ih=>intro m;rw[show m+255*(k+1)=(m+255*k)+255 by omega,ex_per,ih]
 have h:=this (n/255) (n%255);rw[Nat.mod_add_div]at h;exact h.symm
theorem ex_ne (n:Nat):ex n≠0:=by
 have h: ∀i,i<255→ex i≠0:=fun i hi e=>by
  have h1:=List.all_eq_true.1 L_pos (ex i).toNat (List.mem_of_getElem? (L_get i hi));rw[e]at h1;exact absurd h1 (by decide)
 rw[←ex_mod];exact h _ (Nat.mod_lt _ (by decide))
theorem ex_has (a:UInt8) (ha:a≠0): ∃i,i<255∧ex i=a:=by
 have hn:a.toNat≠0:=fun e=>ha (UInt8.toNat_inj.1 e);have hl:a.toNat<256:=a.toNat_lt;have h:=List.all_eq_true.1 L_all (a.toNat-1) (List.mem_range.2 (by omega));rw[show a.toNat-1+1=a.toNat by omega,List.contains_iff_mem]at h;obtain⟨i,hi⟩:=List.mem_iff_getElem?.1 h
 have hl:i<255:=by
  have:=(List.getElem?_eq_some_iff.1 hi).1
  rwa [List.length_map,exL_len]at this
 rw[L_get i hl]at hi;exact⟨i,hl,UInt8.toNat_inj.1 (Option.some.inj hi)⟩
theorem logI_ex: ∀(n i:Nat),i<n→n≤255→logI n (ex i)=i
 |0,i,h,_=>by omega
 |n+1,i,h,hn=>by
  rw[logI];by_cases e:ex i=ex n
  ·rw[if_pos e];exact(ex_inj (by omega) (by omega) e).symm
  ·rw[if_neg e]
   have:i≠n:=fun h=>e (by rw[h]);exact logI_ex n i (by omega) (by omega)
theorem lg_ex (i:Nat) (h:i<255):lg (ex i)=i:=logI_ex 255 i h (Nat.le_refl _)
theorem lg_mod (i:Nat):lg (ex i)=i%255:=by rw[←ex_mod];exact lg_ex _ (Nat.mod_lt _ (by decide))
theorem ex_lg (a:UInt8) (ha:a≠0):ex (lg a)=a:=by
 obtain⟨i,hi,rfl⟩:=ex_has a ha;rw[lg_ex i hi]
theorem logI_lt: ∀(n:Nat) (a:UInt8),0<n→logI n a<n
 |0,_,h=>by omega
 |n+1,a,_=>by
  rw[logI]
  split
  ·omega
  ·rcases Nat.eq_zero_or_pos n with rfl|h
   ·simp[logI]
   ·have:=logI_lt n a h;omega
theorem lg_lt (a:UInt8):lg a<255:=logI_lt 255 a (by decide)
theorem gm_ex (i j:Nat):gm (ex i) (ex j)=ex (i+j):=by
 unfold gm;rw[if_neg (by rintro(h|h)<;>exact ex_ne _ h),lg_mod,lg_mod,←ex_mod,←Nat.add_mod,ex_mod]
@[simp] theorem gm_zero (a:UInt8):gm a 0=0:=if_pos (Or.inr rfl)
@[simp] theorem zero_gm (a:UInt8):gm 0 a=0:=if_pos (Or.inl rfl)
theorem gm_comm (a b:UInt8):gm a b=gm b a:=by
 unfold gm;rw[Nat.add_comm];by_cases h:a=0∨b=0
 ·rw[if_pos h,if_pos h.symm]
 ·rw[if_neg h,if_neg (fun k=>h k.symm)]
theorem gm_one (a:UInt8):gm a 1=a:=by
 by_cases h:a=0
 ·subst h;rw[zero_gm]
 ·obtain⟨i,_,rfl⟩:=ex_has a h
  exact gm_ex i 0
theorem one_gm (a:UInt8):gm 1 a=a:=by rw[gm_comm,gm_one]
theorem gm_assoc (a b c:UInt8):gm (gm a b) c=gm a (gm b c):=by
 by_cases ha:a=0
 ·subst ha;simp
 by_cases hb:b=0
 ·subst hb;simp
 by_cases hc:c=0
 ·subst hc;simp
 obtain⟨i,_,rfl⟩:=ex_has a ha;obtain⟨j,_,rfl⟩:=ex_has b hb;obtain⟨k,_,rfl⟩:=ex_has c hc;rw[gm_ex,gm_ex,gm_ex,gm_ex,Nat.add_assoc]
theorem gm_ne {a b:UInt8} (ha:a≠0) (hb:b≠0):gm a b≠0:=by
 unfold gm;rw[if_neg (by rintro(h|h);exact ha h;exact hb h)];exact ex_ne _
theorem gm_gi {a:UInt8} (ha:a≠0):gm a (gi a)=1:=by
 have h:=lg_lt a;unfold gi;rw[if_neg ha];have h2:=gm_ex (lg a) (255-lg a);rw[ex_lg a ha,show lg a+(255-lg a)=255 by omega,ex_last]at h2;exact h2
theorem gi_ne {a:UInt8} (ha:a≠0):gi a≠0:=by unfold gi;rw[if_neg ha];exact ex_ne _
theorem dbl_zero:dbl 0=0:=rfl
theorem dbl_bv (x:UInt8):(dbl x).toBitVec=(x.toBitVec<<<1)^^^(if x.toBitVec.msb then 29#8 else 0#8):=by
 have h: ∀y:BitVec 8,y+y=y<<<1:=fun y=>by
  apply BitVec.eq_of_toNat_eq;rw[BitVec.toNat_add,BitVec.toNat_shiftLeft,Nat.shiftLeft_eq]
  congr 1
  omega
 have hm:x.toBitVec.msb=decide (128≤x.toNat):=by
  rw[BitVec.msb_eq_decide];rfl
 unfold dbl;rw[hm];by_cases hx:128≤x.toNat
 ·rw[if_pos hx,decide_eq_true hx]
  simp only[if_true,UInt8.toBitVec_xor,UInt8.toBitVec_add,h];rfl
 ·rw[if_neg hx,decide_eq_false hx]
  simp[UInt8.toBitVec_add,h]
theorem dbl_xor (a b:UInt8):dbl (a^^^b)=dbl a^^^dbl b:=by
 apply UInt8.toBitVec_inj.1;rw[UInt8.toBitVec_xor,dbl_bv,dbl_bv,dbl_bv,UInt8.toBitVec_xor,BitVec.msb_xor,BitVec.shiftLeft_xor_distrib];have key: ∀u v:Bool,(if(u^^v)=true then 29#8 else 0#8)=(if u=true then 29#8 else 0#8)^^^(if v=true then 29#8 else 0#8):=by decide
 rw[key]
 ac_rfl
def dblN:Nat→UInt8→UInt8
 |0,x=>x
 |n+1,x=>dbl (dblN n x)
theorem dblN_ex (n k:Nat):dblN n (ex k)=ex (n+k):=by
 induction n with
 |zero=>rw[Nat.zero_add];rfl
 |succ n ih=>rw[dblN,ih,show n+1+k=(n+k)+1 by omega,ex]
theorem dblN_zero (n:Nat):dblN n 0=0:=by
 induction n with
 |zero=>rfl
 |succ n ih=>rw[dblN,ih,dbl_zero]
theorem dblN_xor (n:Nat) (a b:UInt8):dblN n (a^^^b)=dblN n a^^^dblN n b:=by
 induction n with
 |zero=>rfl
 |succ n ih=>rw[dblN,ih,dbl_xor];rfl
theorem gm_dbl (i:Nat) (b:UInt8):gm (ex i) b=dblN i b:=by
 by_cases h:b=0
 ·subst h;rw[gm_zero,dblN_zero]
 ·obtain⟨j,_,rfl⟩:=ex_has b h
  rw[gm_ex,dblN_ex]
theorem gm_xor (a b c:UInt8):gm a (b^^^c)=gm a b^^^gm a c:=by
 by_cases h:a=0
 ·subst h;simp
 ·obtain⟨i,_,rfl⟩:=ex_has a h
  rw[gm_dbl,gm_dbl,gm_dbl,dblN_xor]
theorem xor_gm (a b c:UInt8):gm (a^^^b) c=gm a c^^^gm b c:=by rw[gm_comm,gm_xor,gm_comm c a,gm_comm c b]
theorem xx (a:UInt8):a^^^a=0:=UInt8.xor_self
theorem x0 (a:UInt8):a^^^0=a:=UInt8.xor_zero
theorem gm_cancel {a b c:UInt8} (ha:a≠0) (h:gm a b=gm a c):b=c:=by
 have h1:gm (gi a) (gm a b)=gm (gi a) (gm a c):=by rw[h]
 rw[←gm_assoc,←gm_assoc,gm_comm (gi a) a,gm_gi ha,one_gm,one_gm]at h1;exact h1
theorem gm_left_comm (a b c:UInt8):gm a (gm b c)=gm b (gm a c):=by rw[←gm_assoc,gm_comm a b,gm_assoc]
end Go.Proofs.YtibjkhepedfpiaaGreatDoor.GfP
namespace Go.Proofs.YtibjkhepedfpiaaGreatDoor.PoP
open GfP
def sm (f:Nat→UInt8):Nat→UInt8
 |0=>0
 |n+1=>sm f n^^^f n
theorem xac (a b c d:UInt8):(a^^^b)^^^(c^^^d)=(a^^^c)^^^(b^^^d):=by ac_rfl
theorem zx (a:UInt8):0^^^a=a:=UInt8.zero_xor
theorem xax (a b:UInt8):(b^^^a)^^^a=b:=by rw[UInt8.xor_assoc,xx,x0]
theorem x_zero {a b:UInt8} (h:a^^^b=0):a=b:=by rw[←xax b a,h,zx]
theorem sm_congr {f g:Nat→UInt8}: ∀{n:Nat},(∀i,i<n→f i=g i)→sm f n=sm g n
 |0,_=>rfl
 |n+1,h=>by rw[sm,sm,sm_congr (n:=n) (fun i hi=>h i (by omega)),h n (by omega)]
theorem sm_xor (f g:Nat→UInt8): ∀n:Nat,sm (fun i=>f i^^^g i) n=sm f n^^^sm g n
 |0=>(x0 0).symm
 |n+1=>by rw[sm,sm,sm,sm_xor f g n,xac]
theorem sm_gm (c:UInt8) (f:Nat→UInt8): ∀n:Nat,sm (fun i=>gm c (f i)) n=gm c (sm f n)
 |0=>(gm_zero c).symm
 |n+1=>by rw[sm,sm,sm_gm c f n,gm_xor]
theorem sm_zero {f:Nat→UInt8}: ∀{n:Nat},(∀i,i<n→f i=0)→sm f n=0
 |0,_=>rfl
 |n+1,h=>by rw[sm,sm_zero (n:=n) (fun i hi=>h i (by omega)),h n (by omega)];rfl
theorem sm_more {f:Nat→UInt8} {n m:Nat} (hnm:n≤m) (h: ∀i,n≤i→i<m→f i=0):sm f m=sm f n:=by
 induction m with
 |zero=>obtain rfl:n=0:=by omega
        rfl
 |succ m ih=>
  rcases Nat.lt_or_ge n (m+1)with h1|h1
  ·rw[sm,h m (by omega) (by omega),x0,ih (by omega) (fun i h2 h3=>h i h2 (by omega))]
  ·obtain rfl:n=m+1:=by omega
   rfl
theorem sm_shift (f:Nat→UInt8): ∀n:Nat,sm f (n+1)=f 0^^^sm (fun i=>f (i+1)) n
 |0=>by rw[sm,sm,sm,zx,x0]
 |n+1=>by rw[sm,sm_shift f n,sm,UInt8.xor_assoc]
theorem sm_one {f:Nat→UInt8} {n k:Nat} (hk:k<n) (h: ∀i,i<n→i≠k→f i=0):sm f n=f k:=by
 induction n with
 |zero=>omega
 |succ n ih=>
  rw[sm];by_cases e:k=n
  ·subst e
   rw[sm_zero (fun i hi=>h i (by omega) (by omega)),zx]
  ·rw[h n (by omega) (fun h2=>e h2.symm),x0,ih (by omega) (fun i hi=>h i (by omega))]
theorem sm_rev (f:Nat→UInt8): ∀n:Nat,sm (fun i=>f (n-1-i)) n=sm f n
 |0=>rfl
 |n+1=>by
  rw[sm_shift,sm,←sm_rev f n,UInt8.xor_comm]
  congr 1
  exact sm_congr (fun i hi=>by congr 1;omega)
def pw (x:UInt8):Nat→UInt8
 |0=>1
 |n+1=>gm x (pw x n)
theorem pw_ex (i:Nat): ∀n:Nat,pw (ex i) n=ex (i*n)
 |0=>rfl
 |n+1=>by rw[pw,pw_ex i n,gm_ex,Nat.mul_succ,Nat.add_comm]
theorem pw_flip (i j:Nat):pw (ex i) j=pw (ex j) i:=by rw[pw_ex,pw_ex,Nat.mul_comm]
def ev (f:Nat→UInt8) (n:Nat) (x:UInt8):UInt8:=sm (fun i=>gm (f i) (pw x i)) n
theorem ev_congr {f g:Nat→UInt8} {n:Nat} (x:UInt8) (h: ∀i,i<n→f i=g i):ev f n x=ev g n x:=sm_congr (fun i hi=>by rw[h i hi])
theorem ev_more {f:Nat→UInt8} {n m:Nat} (x:UInt8) (hnm:n≤m) (h: ∀i,n≤i→i<m→f i=0):ev f m x=ev f n x:=sm_more hnm (fun i h1 h2=>by rw[h i h1 h2,zero_gm])
theorem ev_xor (f g:Nat→UInt8) (n:Nat) (x:UInt8):ev (fun i=>f i^^^g i) n x=ev f n x^^^ev g n x:=by
 unfold ev;rw[←sm_xor];exact sm_congr (fun i _=>xor_gm _ _ _)
theorem ev_gm (c:UInt8) (f:Nat→UInt8) (n:Nat) (x:UInt8):ev (fun i=>gm c (f i)) n x=gm c (ev f n x):=by
 unfold ev;rw[←sm_gm];exact sm_congr (fun i _=>gm_assoc _ _ _)
def up (f:Nat→UInt8) (n:Nat):UInt8:=if n=0 then 0 else f (n-1)
theorem ev_up (f:Nat→UInt8) (n:Nat) (x:UInt8):ev (up f) (n+1) x=gm x (ev f n x):=by
 unfold ev;rw[sm_shift,show up f 0=0 from rfl,zero_gm,zx,←sm_gm];refine sm_congr (fun i _=>?_);rw[show up f (i+1)=f i from rfl,pw,gm_left_comm]
def mulx (X:UInt8) (f:Nat→UInt8) (n:Nat):UInt8:=f n^^^gm X (up f n)
theorem ev_mulx (X:UInt8) (f:Nat→UInt8) (d:Nat) (x:UInt8) (h:f d=0):ev (mulx X f) (d+1) x=gm (1^^^gm X x) (ev f d x):=by
 have hm:ev f (d+1) x=ev f d x:=ev_more x (Nat.le_succ d) (fun i h1 h2=>by
  obtain rfl:i=d:=by omega
  exact h)
 rw[show mulx X f=fun n=>f n^^^(fun n=>gm X (up f n)) n from rfl,ev_xor,ev_gm,ev_up,xor_gm,one_gm,gm_assoc,hm]
theorem mulx_comm (X Y:UInt8) (f:Nat→UInt8):mulx X (mulx Y f)=mulx Y (mulx X f):=by
 funext n
 unfold mulx
 cases n with
 |zero=>simp only[up,if_true,gm_zero,x0]
 |succ n=>
  have e: ∀g:Nat→UInt8,up g (n+1)=g n:=fun g=>rfl;rw[e,e,e,gm_xor,gm_xor,gm_left_comm X Y]
  ac_rfl
def one (n:Nat):UInt8:=if n=0 then 1 else 0
def lam:List UInt8→Nat→UInt8
 |[]=>one
 |X::t=>mulx X (lam t)
theorem lam_deg: ∀(l:List UInt8) (n:Nat),l.length<n→lam l n=0
 |[],n,h=>if_neg (by simp at h;omega)
 |X::t,n,h=>by
  simp only[List.length_cons]at h;rw[lam,mulx,lam_deg t n (by omega),up,if_neg (by omega),lam_deg t (n-1) (by omega),gm_zero,x0]
theorem lam_perm {l m:List UInt8} (h:l.Perm m):lam l=lam m:=by
 induction h with
 |nil=>rfl
 |cons x _ ih=>rw[lam,lam,ih]
 |swap x y t=>rw[lam,lam,lam,lam,mulx_comm]
 |trans _ _ h1 h2=>rw[h1,h2]
def pr:List UInt8→UInt8→UInt8
 |[],_=>1
 |X::t,x=>gm (1^^^gm X x) (pr t x)
theorem ev_lam: ∀(l:List UInt8) (x:UInt8),ev (lam l) (l.length+1) x=pr l x
 |[],x=>by
  rw[pr,ev,List.length_nil,sm,sm,zx];exact gm_one _
 |X::t,x=>by rw[lam,List.length_cons,ev_mulx X (lam t) (t.length+1) x (lam_deg t _ (by omega)),ev_lam t x,pr]
theorem pr_zero {l:List UInt8} {X x:UInt8} (hX:X∈l) (h:gm X x=1):pr l x=0:=by
 induction l with
 |nil=>cases hX
 |cons Y t ih=>
  rw[pr];rcases List.mem_cons.1 hX with rfl|hX
  ·rw[h,xx,zero_gm]
  ·rw[ih hX,gm_zero]
theorem pr_ne {l:List UInt8} {x:UInt8} (h: ∀X∈l,gm X x≠1):pr l x≠0:=by
 induction l with
 |nil=>exact(by decide:(1:UInt8)≠0)
 |cons Y t ih=>
  rw[pr];exact gm_ne (fun e=>h Y (by simp) (x_zero e).symm) (ih (fun X hX=>h X (by simp[hX])))
def sl (f:Nat→UInt8) (n:Nat):UInt8:=if n%2=0 then f (n+1)else 0
theorem sl_mulx (X:UInt8) (f:Nat→UInt8) (n:Nat):sl (mulx X f) n=mulx X (sl f) n^^^gm X (f n):=by
 unfold sl mulx up;dsimp only;by_cases h:n%2=0
 ·rw[if_pos h,if_pos h,if_neg (by omega),Nat.add_sub_cancel]
  by_cases h0:n=0
  ·rw[if_pos h0,gm_zero,x0]
  ·rw[if_neg h0,if_neg (by omega),gm_zero,x0]
 ·rw[if_neg h,if_neg h,if_neg (by omega),if_pos (by omega),Nat.sub_add_cancel (by omega),zx,xx]
theorem sl_deg {f:Nat→UInt8} {d:Nat} (h: ∀n,d<n→f n=0) (n:Nat) (hn:d≤n):sl f n=0:=by
 unfold sl
 split
 ·exact h _ (by omega)
 ·rfl
theorem ev_sl (X:UInt8) (l:List UInt8) (x:UInt8) (h:gm X x=1):ev (sl (lam (X::l))) (l.length+1) x=gm X (pr l x):=by
 have e: ∀n,sl (lam (X::l)) n=mulx X (sl (lam l)) n^^^gm X (lam l n):=fun n=>sl_mulx X (lam l) n;rw[show sl (lam (X::l))=fun n=>mulx X (sl (lam l)) n^^^(fun n=>gm X (lam l n)) n from funext e,ev_xor,ev_gm,ev_lam,ev_mulx X _ l.length x (sl_deg (lam_deg l) _ (Nat.le_refl _)),h,xx,zero_gm,zx]
def cv (f g:Nat→UInt8) (m:Nat):UInt8:=sm (fun k=>gm (f k) (g (m-k))) (m+1)
theorem cv_comm (f g:Nat→UInt8) (m:Nat):cv f g m=cv g f m:=by
 unfold cv;rw[←sm_rev];refine sm_congr (fun i hi=>?_);rw[gm_comm,show m+1-1-i=m-i by omega,show m-(m-i)=i by omega]
theorem cv_pw (X:UInt8) (f:Nat→UInt8): ∀m:Nat,cv (mulx X f) (pw X) m=f m
 |0=>by
  unfold cv;rw[sm,sm,zx];show gm (mulx X f 0) (pw X 0)=f 0;rw[mulx,up,if_pos rfl,gm_zero,x0];exact gm_one _
 |m+1=>by
  have ih:=cv_pw X f m;unfold cv at ih ⊢
  have h1:sm (fun k=>gm (mulx X f k) (pw X (m+1-k))) (m+1)=gm X (f m):=by
   rw[←ih,←sm_gm];refine sm_congr (fun k hk=>?_);rw[show m+1-k=(m-k)+1 by omega,pw,gm_left_comm]
  rw[sm,h1,Nat.sub_self];show gm X (f m)^^^gm (mulx X f (m+1)) (pw X 0)=f (m+1);rw[show gm (mulx X f (m+1)) (pw X 0)=mulx X f (m+1)from gm_one _,mulx,up,if_neg (by omega),Nat.add_sub_cancel,UInt8.xor_comm,xax]
def sL {α:Type} (L:List α) (f:α→UInt8):UInt8:=L.foldr (fun a o=>f a^^^o) 0
theorem sL_cons {α:Type} (a:α) (L:List α) (f:α→UInt8):sL (a::L) f=f a^^^sL L f:=rfl
theorem sL_congr {α:Type} {L:List α} {f g:α→UInt8} (h: ∀a∈L,f a=g a):sL L f=sL L g:=by
 induction L with
 |nil=>rfl
 |cons a t ih=>rw[sL_cons,sL_cons,h a (by simp),ih (fun b hb=>h b (by simp[hb]))]
theorem sL_zero {α:Type} {L:List α} {f:α→UInt8} (h: ∀a∈L,f a=0):sL L f=0:=by
 induction L with
 |nil=>rfl
 |cons a t ih=>rw[sL_cons,h a (by simp),ih (fun b hb=>h b (by simp[hb])),x0]
theorem sL_gm {α:Type} (c:UInt8) (L:List α) (f:α→UInt8):sL L (fun a=>gm c (f a))=gm c (sL L f):=by
 induction L with
 |nil=>exact(gm_zero c).symm
 |cons a t ih=>rw[sL_cons,sL_cons,ih,gm_xor]
theorem sL_sm {α:Type} (L:List α) (f:α→Nat→UInt8) (n:Nat):sm (fun i=>sL L (fun a=>f a i)) n=sL L (fun a=>sm (f a) n):=by
 induction L with
 |nil=>exact sm_zero (fun _ _=>rfl)
 |cons a t ih=>rw[show(fun i=>sL (a::t) (fun a=>f a i))=fun i=>f a i^^^(fun i=>sL t (fun a=>f a i)) i from rfl,sm_xor,ih];rfl
theorem sL_one {α:Type} [DecidableEq α] {L:List α} {f:α→UInt8} {a:α} (hn:L.Nodup) (ha:a∈L) (h: ∀b∈L,b≠a→f b=0):sL L f=f a:=by
 induction L with
 |nil=>cases ha
 |cons b t ih=>
  rw[sL_cons];obtain⟨h1,h2⟩:=List.nodup_cons.1 hn;rcases List.mem_cons.1 ha with rfl|ha
  ·rw[sL_zero (fun c hc=>h c (by simp[hc]) (fun e=>h1 (e▸hc))),x0]
  ·rw[h b (by simp) (fun e=>h1 (e▸ha)),zx,ih h2 ha (fun c hc=>h c (by simp[hc]))]
theorem sm_list {L:List Nat} {f:Nat→UInt8} {n:Nat} (hn:L.Nodup) (hl: ∀i∈L,i<n) (hf: ∀i,i<n→i∉L→f i=0):sm f n=sL L f:=by
 induction L generalizing f with
 |nil=>exact sm_zero (fun i hi=>hf i hi (by simp))
 |cons a t ih=>
  obtain⟨h1,h2⟩:=List.nodup_cons.1 hn
  have e: ∀i,f i=(if i=a then f a else 0)^^^(if i=a then 0 else f i):=fun i=>by
   by_cases h:i=a
   ·rw[if_pos h,if_pos h,x0,h]
   ·rw[if_neg h,if_neg h,zx]
  have h3:sm f n=sm (fun i=>(if i=a then f a else 0)^^^(if i=a then 0 else f i)) n:=sm_congr (fun i _=>e i);have h4:sm (fun i=>if i=a then f a else 0) n=f a:=(sm_one (k:=a) (hl a (by simp)) (fun i _ hi=>if_neg hi)).trans (if_pos rfl)
  have h5:sm (fun i=>if i=a then 0 else f i) n=sL t (fun i=>if i=a then 0 else f i):=ih h2 (fun i hi=>hl i (by simp[hi])) (fun i hi hni=>by
   by_cases h:i=a
   ·exact if_pos h
   ·rw[if_neg h];exact hf i hi (by simp[h,hni]))
  rw[h3,sm_xor,h4,h5,sL_cons]
  congr 1
  exact sL_congr (fun b hb=>if_neg (fun(hba:b=a)=>h1 (by rw[←hba];exact hb)))
section decode
variable {L:List Nat} {X:Nat→UInt8} {e:Nat→UInt8}
def oth (L:List Nat) (X:Nat→UInt8) (n:Nat):List UInt8:=(L.erase n).map X
theorem oth_len {n:Nat} (h:n∈L):(oth L X n).length+1=L.length:=by
 have:=List.length_pos_of_mem h;rw[oth,List.length_map,List.length_erase_of_mem h];omega
theorem lam_oth {n:Nat} (h:n∈L):lam (L.map X)=mulx (X n) (lam (oth L X n)):=by
 rw[lam_perm ((List.perm_cons_erase h).map X)];rfl
def syn (L:List Nat) (X e:Nat→UInt8) (j:Nat):UInt8:=sL L (fun n=>gm (e n) (pw (X n) j))
theorem cv_syn (m:Nat):cv (lam (L.map X)) (syn L X e) m=sL L (fun n=>gm (e n) (lam (oth L X n) m)):=by
 unfold cv syn
 have h1: ∀k,gm (lam (L.map X) k) (sL L (fun n=>gm (e n) (pw (X n) (m-k))))=sL L (fun n=>gm (e n) (gm (lam (L.map X) k) (pw (X n) (m-k)))):=fun k=>by
  rw[←sL_gm];exact sL_congr (fun n _=>gm_left_comm _ _ _)
 rw[sm_congr (fun k _=>h1 k),sL_sm];refine sL_congr (fun n hn=>?_);rw[sm_gm]
 congr 1
 have:=cv_pw (X n) (lam (oth L X n)) m;rw[←lam_oth hn]at this;exact this
theorem pr_other {n k:Nat} (hk:k∈L) (hne:n≠k) (h0:X k≠0):pr (oth L X n) (gi (X k))=0:=
 pr_zero (X:=X k) (List.mem_map.2 ⟨k,(List.mem_erase_of_ne (fun e=>hne e.symm)).2 hk,rfl⟩) (gm_gi h0)
theorem pr_self (hX: ∀a∈L,∀b∈L,X a=X b→a=b) (hn:L.Nodup) {k:Nat} (hk:k∈L) (h0:X k≠0):pr (oth L X k) (gi (X k))≠0:=by
 refine pr_ne (fun Y hY e=>?_);obtain⟨a,ha,rfl⟩:=List.mem_map.1 hY;have h1:X a=X k:=gm_cancel (gi_ne h0) (by rw[gm_comm,e,gm_comm,gm_gi h0]);have ha2:=(List.Nodup.mem_erase_iff hn).1 ha;exact ha2.1 (hX a ha2.2 k hk h1)
theorem value_at (hn:L.Nodup) (hl:L.length≤64) {k:Nat} (hk:k∈L) (h0:X k≠0):
 ev (cv (lam (L.map X)) (syn L X e)) 64 (gi (X k))=gm (e k) (pr (oth L X k) (gi (X k))):=by
 rw[ev_congr _ (fun m _=>cv_syn m)]
 have h1:ev (fun m=>sL L (fun n=>gm (e n) (lam (oth L X n) m))) 64 (gi (X k))=sL L (fun n=>gm (e n) (pr (oth L X n) (gi (X k)))):=by
  unfold ev
  have h2: ∀m,gm (sL L (fun n=>gm (e n) (lam (oth L X n) m))) (pw (gi (X k)) m)=sL L (fun n=>gm (e n) (gm (lam (oth L X n) m) (pw (gi (X k)) m))):=fun m=>by
   rw[gm_comm,←sL_gm];exact sL_congr (fun n _=>by rw[gm_left_comm,gm_comm (pw _ _)])
  rw[sm_congr (fun m _=>h2 m),sL_sm];refine sL_congr (fun n hn=>?_);rw[sm_gm]
  congr 1
  have h3:=oth_len (X:=X) hn;exact(ev_more (f:=lam (oth L X n)) (gi (X k)) (show(oth L X n).length+1≤64 by omega) (fun i h4 _=>lam_deg _ _ (by omega))).trans (ev_lam _ _)
 rw[h1];exact sL_one hn hk (fun n _ hne=>by rw[pr_other hk hne h0,gm_zero])
theorem slope_at {k:Nat} (hk:k∈L) (h0:X k≠0):ev (sl (lam (L.map X))) L.length (gi (X k))=gm (X k) (pr (oth L X k) (gi (X k))):=by
 rw[lam_oth hk,←oth_len (X:=X) hk];exact ev_sl (X k) (oth L X k) _ (gm_gi h0)
theorem slope_ne (hX: ∀a∈L,∀b∈L,X a=X b→a=b) (hn:L.Nodup) {k:Nat} (hk:k∈L) (h0:X k≠0):ev (sl (lam (L.map X))) L.length (gi (X k))≠0:=by
 rw[slope_at hk h0];exact gm_ne h0 (pr_self hX hn hk h0)
theorem wrong_at (hX: ∀a∈L,∀b∈L,X a=X b→a=b) (hn:L.Nodup) (hl:L.length≤64) {k:Nat} (hk:k∈L) (h0:X k≠0):
 gm (X k) (gm (ev (cv (lam (L.map X)) (syn L X e)) 64 (gi (X k))) (gi (ev (sl (lam (L.map X))) L.length (gi (X k)))))=e k:=by
 have hp:=pr_self hX hn hk h0;have hs:=slope_ne hX hn hk h0;rw[value_at hn hl hk h0];have h1:=slope_at hk h0;rw[h1]at hs ⊢;obtain⟨p,hpe⟩: ∃p,pr (oth L X k) (gi (X k))=p:=⟨_,rfl⟩;rw[hpe]at hs ⊢;rw[gm_assoc,gm_left_comm,←gm_assoc (X k),gm_gi hs,gm_one]
theorem none_wrong (hX: ∀a∈L,∀b∈L,X a=X b→a=b) (hn:L.Nodup) (hl:L.length≤64) (hX0: ∀a∈L,X a≠0) (hs: ∀j,j<64→syn L X e j=0): ∀k∈L,e k=0:=fun k hk=>by
 have h:=wrong_at (e:=e) hX hn hl hk (hX0 k hk)
 rw[ev_congr (g:=fun _=>0) _ (fun m hm=>by
  unfold cv;exact sm_zero (fun i hi=>by rw[hs _ (by omega),gm_zero]))]at h
 rw[show ev (fun _=>0) 64 (gi (X k))=0 from sm_zero (fun _ _=>zero_gm _),zero_gm,gm_zero]at h;exact h.symm
end decode
end Go.Proofs.YtibjkhepedfpiaaGreatDoor.PoP
namespace Go.Proofs.YtibjkhepedfpiaaGreatDoor.RsP
open GfP PoP
def hr (l:List UInt8) (x:UInt8):UInt8:=l.foldl (fun o c=>gm o x^^^c) 0
theorem hr_from (x:UInt8): ∀(l:List UInt8) (o:UInt8),l.foldl (fun o c=>gm o x^^^c) o=gm o (pw x l.length)^^^hr l x
 |[],o=>by rw[List.foldl_nil,hr,List.foldl_nil,x0];exact(gm_one o).symm
 |c::t,o=>by
  have h:hr (c::t) x=gm c (pw x t.length)^^^hr t x:=by rw[hr,List.foldl_cons,hr_from x t,zero_gm,zx]
  rw[List.foldl_cons,hr_from x t,h,xor_gm,List.length_cons,pw,gm_assoc,UInt8.xor_assoc]
theorem hr_append (l m:List UInt8) (x:UInt8):hr (l++m) x=gm (hr l x) (pw x m.length)^^^hr m x:=by
 rw[hr,List.foldl_append,hr_from];rfl
theorem hr_snoc (l:List UInt8) (c x:UInt8):hr (l++[c]) x=gm (hr l x) x^^^c:=by rw[hr,List.foldl_append];rfl
theorem hr_sum (l:List UInt8) (x:UInt8):hr l x=sm (fun i=>gm (l.getD i 0) (pw x (l.length-1-i))) l.length:=by
 induction l with
 |nil=>rfl
 |cons c t ih=>
  have h:=hr_append [c] t x;rw[List.singleton_append]at h;rw[h,List.length_cons,sm_shift,ih]
  congr 1
  ·rw[show hr [c] x=gm 0 x^^^c from rfl,zero_gm,zx]
   simp
  ·refine sm_congr (fun i hi=>?_)
   rw[List.getD_cons_succ,show t.length+1-1-(i+1)=t.length-1-i by omega]
def mulr (r:UInt8) (f:Nat→UInt8) (n:Nat):UInt8:=gm r (f n)^^^up f n
theorem ev_mulr (r:UInt8) (f:Nat→UInt8) (d:Nat) (x:UInt8) (h:f d=0):ev (mulr r f) (d+1) x=gm (r^^^x) (ev f d x):=by
 have hm:ev f (d+1) x=ev f d x:=ev_more x (Nat.le_succ d) (fun i h1 h2=>by
  obtain rfl:i=d:=by omega
  exact h)
 rw[show mulr r f=fun n=>(fun n=>gm r (f n)) n^^^up f n from rfl,ev_xor,ev_gm,ev_up,xor_gm,hm]
def gen:Nat→Nat→UInt8
 |0=>one
 |k+1=>mulr (ex k) (gen k)
theorem gen_deg: ∀(k n:Nat),k<n→gen k n=0
 |0,n,h=>if_neg (by omega)
 |k+1,n,h=>by rw[gen,mulr,gen_deg k n (by omega),gm_zero,zx,up,if_neg (by omega),gen_deg k _ (by omega)]
theorem gen_top: ∀k:Nat,gen k k=1
 |0=>rfl
 |k+1=>by rw[gen,mulr,gen_deg k _ (by omega),gm_zero,zx,up,if_neg (by omega),Nat.add_sub_cancel,gen_top k]
theorem gen_root: ∀(k j:Nat),j<k→ev (gen k) (k+1) (ex j)=0
 |0,j,h=>by omega
 |k+1,j,h=>by
  rw[gen,ev_mulr _ _ _ _ (gen_deg k _ (by omega))];by_cases e:j=k
  ·rw[e,xx,zero_gm]
  ·rw[gen_root k j (by omega),gm_zero]
def stepR (R:Nat→UInt8) (d:UInt8) (k:Nat):UInt8:=(if k<63 then R (k+1)else 0)^^^gm (d^^^R 0) (gen 64 (63-k))
def regV (R:Nat→UInt8) (a:UInt8):UInt8:=sm (fun k=>gm (R k) (pw a (63-k))) 64
theorem reg_shift (R:Nat→UInt8) (a:UInt8) (N:Nat):gm a (sm (fun k=>gm (R k) (pw a (N-k))) (N+1))=gm (R 0) (pw a (N+1))^^^sm (fun k=>gm (R (k+1)) (pw a (N-k))) N:=by
 rw[←sm_gm,sm_shift,Nat.sub_zero,gm_left_comm,pw];refine congrArg (gm (R 0) (gm a (pw a N))^^^ ·) (sm_congr (fun k hk=>?_));rw[gm_left_comm,show N-k=(N-(k+1))+1 by omega,pw]
theorem regV_step (R:Nat→UInt8) (d a:UInt8) (h:ev (gen 64) 65 a=0):regV (stepR R d) a=gm a (regV R a)^^^gm d (pw a 64):=by
 have h1:regV (stepR R d) a=sm (fun k=>gm (if k<63 then R (k+1)else 0) (pw a (63-k))) 64^^^gm (d^^^R 0) (sm (fun k=>gm (gen 64 (63-k)) (pw a (63-k))) 64):=by
  unfold regV stepR;rw[←sm_gm,←sm_xor];exact sm_congr (fun k _=>by rw[xor_gm,gm_assoc])
 have h2:sm (fun k=>gm (gen 64 (63-k)) (pw a (63-k))) 64=pw a 64:=by
  have e:sm (fun k=>gm (gen 64 (63-k)) (pw a (63-k))) 64=ev (gen 64) 64 a:=sm_rev (fun i=>gm (gen 64 i) (pw a i)) 64;have e2:ev (gen 64) 65 a=ev (gen 64) 64 a^^^gm (gen 64 64) (pw a 64):=rfl;rw[h,gen_top,one_gm]at e2;rw[e];exact x_zero e2.symm
 have h3:sm (fun k=>gm (if k<63 then R (k+1)else 0) (pw a (63-k))) 64=sm (fun k=>gm (R (k+1)) (pw a (63-k))) 63:=by
  have e: ∀F:Nat→UInt8,sm F 64=sm F 63^^^F 63:=fun F=>rfl;rw[e,if_neg (by omega),zero_gm,x0];exact sm_congr (fun k hk=>by rw[if_pos hk])
 have h4:gm a (regV R a)=gm (R 0) (pw a 64)^^^sm (fun k=>gm (R (k+1)) (pw a (63-k))) 63:=reg_shift R a 63;rw[h1,h2,h3,h4,xor_gm]
 generalize sm (fun k=>gm (R (k+1)) (pw a (63-k))) 63=S
 generalize gm (R 0) (pw a 64)=A
 generalize gm d (pw a 64)=D
 rw[UInt8.xor_comm D A,←UInt8.xor_assoc,UInt8.xor_comm S A]
def encR (data:List UInt8):Nat→UInt8:=data.foldl stepR (fun _=>0)
theorem encR_snoc (l:List UInt8) (d:UInt8):encR (l++[d])=stepR (encR l) d:=by rw[encR,List.foldl_append];rfl
theorem regV_enc (a:UInt8) (h:ev (gen 64) 65 a=0) (data:List UInt8):regV (encR data) a=gm (hr data a) (pw a 64):=by
 have key: ∀n,regV (encR (data.take n)) a=gm (hr (data.take n) a) (pw a 64):=fun n=>by
  induction n with
  |zero=>
   rw[List.take_zero];rw[show hr [] a=0 from rfl,zero_gm];exact sm_zero (fun _ _=>zero_gm _)
  |succ n ih=>
   rcases Nat.lt_or_ge n data.length with h1|h1
   ·rw[List.take_add_one,List.getElem?_eq_getElem h1,Option.toList_some,encR_snoc,regV_step _ _ _ h,ih,hr_snoc,xor_gm,gm_comm (hr _ a) a,gm_assoc]
   ·rw[List.take_of_length_le (by omega)]
    rw[List.take_of_length_le (by omega)]at ih;exact ih
 have:=key data.length
 rwa [List.take_length]at this
def enc (data:List UInt8):List UInt8:=(List.range 64).map (encR data)
theorem enc_len (data:List UInt8):(enc data).length=64:=by simp[enc]
theorem word_ok (data:List UInt8) (j:Nat) (hj:j<64):hr (data++enc data) (ex j)=0:=by
 have h:=gen_root 64 j hj;rw[hr_append,hr_sum (enc data),enc_len,←regV_enc (ex j) h data]
 have e:sm (fun i=>gm ((enc data).getD i 0) (pw (ex j) (64-1-i))) 64=regV (encR data) (ex j):=sm_congr (fun i hi=>by
  rw[enc,List.getD_eq_getElem?_getD,List.getElem?_map,List.getElem?_range hi];rfl)
 rw[e,xx]
def loc (n:Nat):UInt8:=ex (254-n)
theorem loc_ne (n:Nat):loc n≠0:=ex_ne _
theorem loc_inj {a b:Nat} (ha:a<255) (hb:b<255) (h:loc a=loc b):a=b:=by
 have:=ex_inj (i:=254-a) (j:=254-b) (by omega) (by omega) h;omega
theorem syn_of {r c:List UInt8} {L:List Nat} (hr1:r.length=255) (hc:c.length=255) (hn:L.Nodup) (hL: ∀n∈L,n<255) (hw: ∀j,j<64→hr c (ex j)=0) (he: ∀n,n<255→n∉L→r.getD n 0=c.getD n 0) (j:Nat) (hj:j<64):
 hr r (ex j)=syn L loc (fun n=>r.getD n 0^^^c.getD n 0) j:=by
 have h1:hr r (ex j)=hr r (ex j)^^^hr c (ex j):=by rw[hw j hj,x0]
 rw[h1,hr_sum,hr_sum,hr1,hc,←sm_xor,sm_list (L:=L) hn hL (fun i hi hni=>by rw[he i hi hni,xx])];unfold syn;refine sL_congr (fun n hn=>?_);rw[←xor_gm,loc,pw_flip]
end Go.Proofs.YtibjkhepedfpiaaGreatDoor.RsP
