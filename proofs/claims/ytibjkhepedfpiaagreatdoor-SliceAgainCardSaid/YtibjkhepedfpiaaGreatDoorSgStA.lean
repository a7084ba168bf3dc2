import Derived.Test.YtibjkhepedfpiaaGreatDoorSgPkI
import Derived.Test.YtibjkhepedfpiaaGreatDoorSgStP
namespace Go.Proofs.YtibjkhepedfpiaaGreatDoor.StA
open Go Go.RowKit Q Mem Rg Ap ApG St CrB Scp PaA PaK PaP SlM SlP SlR SlS SlW StP
def en1 (x:Int):List Value:=[.int .i64 x]
theorem elem1:Elem Tryz.prog 41 3 1 8:=elem_of Tryz.underlying41 (z:= .int .i64 0) (by kernel_rfl) rfl (by decide)
structure St2 (w wr:World) (v1 v2:Value) (S E:List Int):Prop where
 o1:wr.ownsRow w.heap.size 3 1 v1 S.length (flat en1 S)
 o2:wr.ownsRow w.heap.size 3 1 v2 E.length (flat en1 E)
 ap: ∀r,v1.ownBlock=some r→v2.ownBlock≠some r
 be:Below w.heap.size w wr
section
variable {w wr w8:World} {v1 v2 u:Value} {S E:List Int} {x:Int}
theorem St2.swap (h:St2 w wr v1 v2 S E):St2 w wr v2 v1 E S:=⟨h.o2,h.o1,apart_symm h.ap,h.be⟩
theorem St2.below (h:St2 w wr v1 v2 S E) (hb:Below wr.heap.size wr w8):St2 w w8 v1 v2 S E:=⟨own_below h.o1 hb,own_below h.o2 hb,h.ap,h.be.trans (hb.mono h.be.size)⟩
theorem St2.add1 (h:St2 w wr v1 v2 S E) (hown:w8.ownsRow w.heap.size 3 1 u (S.length+1) (flat en1 S++[.int .i64 x])) (hg:wr.grownBy w8 v1.ownBlock) (hl:u.ownBlock=v1.ownBlock∨u.ownBlock=some wr.heap.size):St2 w w8 u v2 (S++[x]) E:=by
 refine⟨by simpa [flat,en1]using hown,own_other h.o2 hg h.ap,apart_symm (apart_step hl (fun r hr=>(h.o2.lt r hr).2) h.ap),h.be.trans (below_of_only hg h.be.size (fun k hk=>(h.o1.lt k hk).1))⟩
theorem St2.add2 (h:St2 w wr v1 v2 S E) (hown:w8.ownsRow w.heap.size 3 1 u (E.length+1) (flat en1 E++[.int .i64 x])) (hg:wr.grownBy w8 v2.ownBlock) (hl:u.ownBlock=v2.ownBlock∨u.ownBlock=some wr.heap.size):St2 w w8 v1 u S (E++[x]):=(h.swap.add1 hown hg hl).swap
end
structure JF (t1:Int) (t2:Nat) (s f r C:Int):Prop where
 lo:r≤0→s=t1∧f=(t2:Int)
 hi:0<r→gE s r.toNat=(t1,t2)∧f=0
 b: -200≤r∧r≤5000∧ -1≤s∧s+max r 0≤C∧C≤9000000
theorem JF.big {t1:Int} {t2:Nat} {s f r C:Int} (h:JF t1 t2 s f r C) (h9:183≤r):JF t1 t2 (s+1) f (max (r-184) 0) C:=by
 obtain⟨h1,h2⟩:=h.hi (by omega);rw[gE_big (by omega),show r.toNat-184=(max (r-184) 0).toNat by omega]at h1;obtain⟨b1,b2,b3,b4,b5⟩:=h.b;refine⟨fun hr=>?_,fun hr=>⟨h1,h2⟩,by omega,by omega,by omega,by omega,b5⟩;rw[show(max (r-184) 0).toNat=0 by omega,gE_0]at h1;injection h1 with e1 e2
 exact⟨e1,by rw[h2,←e2];rfl⟩
theorem JF.mid {t1:Int} {t2:Nat} {s f r C:Int} (h:JF t1 t2 s f r C) (h9:r<183) (h0:0<r):s+1=t1∧183-r=(t2:Int):=by
 obtain⟨h1,h2⟩:=h.hi h0;rw[gE_mid (by omega) (by omega)]at h1;injection h1 with e1 e2
 exact⟨e1,by omega⟩
structure StG (b:Br) (w:World) (e:Ending) (w':World):Prop where
 be:Below w.heap.size w w'
 bad:checkE 0 [b]≠0→e= .returned (.tuple #[.slice none 0 0,.slice none 0 0,.int .i64 (checkE 0 [b])])
 ok:checkE 0 [b]=0→ ∃v1 v2,e= .returned (.tuple #[v1,v2,.int .i64 0])∧St2 w w' v1 v2 ((stS (b.at_-1) 0 (b.S.map ByteArray.size)).map Prod.fst) ((stS (b.at_-1) 0 (b.S.map ByteArray.size)).map Prod.snd)
structure Stq (A0:Int) (ls:List Nat) (X Y:List Int) (q:Nat) (s:Int) (m:Nat) (O E:List Int):Prop where
 o:O++(stS s m (ls.drop q)).map Prod.fst=X
 e:E++(stS s m (ls.drop q)).map Prod.snd=Y
 b: -1≤s∧s≤A0+5001*q∧m≤183∧O.length=q∧E.length=q
theorem goS_le: ∀(f:Nat) (s:Int) (r:Nat),(goS f s r).2≤183
 |0,_,_=>by simp[goS]
 |f+1,s,r=>by
  rw[goS]
  split
  ·exact goS_le f _ _
  ·split
   ·show 183-r≤183;omega
   ·show 0≤183;omega
theorem stS_cons (s:Int) (m n:Nat) (t:List Nat) (s1:Int) (m1:Nat) (h:(m=0∧s1=s+1∧m1=183)∨(m≠0∧s1=s∧m1=m)) (hm:m1≤183):
 ∃t1 t2,stS s m (n::t)=(s1,t1)::stS t1 t2 t∧(n≤m1→s1=t1∧t2=m1-n)∧(m1<n→gE s1 (n-m1)=(t1,t2))∧t2≤183:=by
 have e1:(if m=0 then s+1 else s)=s1:=by rcases h with⟨h,e,_⟩|⟨h,e,_⟩<;>simp[h,e]
 have e2:(if m=0 then 183 else m)=m1:=by rcases h with⟨h,_,e⟩|⟨h,_,e⟩<;>simp[h,e]
 rw[stS,e1,e2];by_cases hn:n≤m1
 ·rw[if_pos hn]
  exact⟨s1,m1-n,rfl,fun _=>⟨rfl,rfl⟩,fun h=>absurd hn (by omega),by omega⟩
 ·rw[if_neg hn]
  exact⟨_,_,rfl,fun h=>absurd h hn,fun _=>rfl,goS_le _ _ _⟩
theorem jf_start {s1:Int} {m1 n t2:Nat} {t1 C:Int} (h1:n≤m1→s1=t1∧t2=m1-n) (h2:m1<n→gE s1 (n-m1)=(t1,t2)) (hn:n≤5000) (hm:m1≤183) (hs: -1≤s1) (hC:s1+5000≤C) (hC9:C≤9000000):
 JF t1 t2 s1 (max (-((n:Int)-(m1:Int))) 0) ((n:Int)-(m1:Int)) C:=by
 refine⟨fun h=>?_,fun h=>⟨?_,by omega⟩,by omega,by omega,hs,by omega,hC9⟩
 ·obtain⟨a,b⟩:=h1 (by omega)
  exact⟨a,by omega⟩
 ·rw[show((n:Int)-(m1:Int)).toNat=n-m1 by omega]
  exact h2 (by omega)
def tm (a:Act) (k:Nat):Value:=a.tmps.getD k undef
def frS (B:Nat) (pid at_:Int) (vo ve sl:Value) (n q s f r:Int) (u:Nat→Value):Act:={tmps:= #[.agg #[.int .i64 pid,.int .i64 at_,sl],.pointer (some ⟨B,0,none⟩),.slice none 0 0,.slice none 0 0,.int .i64 0,.int .i64 0,vo,ve,.int .i64 s,.int .i64 f,undef,u 11,.int .i64 r,.agg #[.int .i64 pid,.int .i64 at_,sl],.slice (some ⟨B+1,0,none⟩) 1 1,.int .i64 0,.int .i64 0,.bool false,undef,.pointer (some ⟨B,1,none⟩),.int .i64 at_,.int .i64 (at_-1),.pointer (some ⟨B,2,none⟩),sl,.int .i64 n,.int .i64 q,u 26,u 27,u 28,u 29,u 30,u 31,u 32,u 33,u 34,u 35,u 36,u 37,u 38,u 39,u 40,u 41,u 42,u 43,u 44,u 45,u 46,u 47,u 48,u 49,u 50,u 51,u 52,u 53,u 54,u 55,u 56,u 57,u 58,u 59,u 60,u 61,u 62,u 63,undef,undef],defers:=[]}
def J0 (w:World) (pid at_:Int) (sl:Value) (n q:Int) (t1:Int) (t2:Nat) (C:Int) (O E:List Int) (a:Act) (W:World):Prop:= ∃(u:Nat→Value) (vo ve:Value) (s f r:Int),a=frS w.heap.size pid at_ vo ve sl n q s f r u∧JF t1 t2 s f r C∧St2 w W vo ve O E
theorem j0_intro {w W:World} {pid at_:Int} {sl:Value} {n q:Int} {t1:Int} {t2:Nat} {C:Int} {O E:List Int} {a:Act} {vo ve:Value} {s f r:Int} (h:a=frS w.heap.size pid at_ vo ve sl n q s f r (tm a)) (hj:JF t1 t2 s f r C) (hs:St2 w W vo ve O E):J0 w pid at_ sl n q t1 t2 C O E a W:=⟨tm a,vo,ve,s,f,r,h,hj,hs⟩
def num (v:Value):Nat:=match v with| .int _ i=>i.toNat|_=>0
theorem hHead {A0:Int} {ls:List Nat} {X Y:List Int} {q:Nat} {s:Int} {m:Nat} {O E:List Int} {n:Nat} {s1 t1:Int} {t2:Nat} (h:Stq A0 ls X Y q s m O E) (hd:ls.drop q=n::ls.drop (q+1)) (hs:stS s m (n::ls.drop (q+1))=(s1,t1)::stS t1 t2 (ls.drop (q+1))):
 O.length=q∧(-1≤t1∧t1≤A0+5001*((q:Int)+1)→t2≤183→Stq A0 ls X Y (q+1) t1 t2 (O++[s1]) (E++[t1])):=by
 obtain⟨h1,h2,h3,h4,h5,h6,h7⟩:=h;refine⟨h6,fun hb ht=>⟨?_,?_,hb.1,by have:=hb.2;simp;omega,ht,by simp[h6],by simp[h7]⟩⟩
 ·rw[←h1,hd,hs];simp
 ·rw[←h2,hd,hs];simp
set_option maxRecDepth 100000
set_option maxHeartbeats 6400000 in
theorem starts_any (x:Bu) (w:World) (hok:BuOk w x) (hsm:Small x.b):Calls Tryz.prog 23 #[.agg #[.int .i64 x.b.pid,.int .i64 x.b.at_,.slice x.a x.b.S.length x.c]] w (StG x.b w):=by
 obtain⟨R,hR⟩: ∃R:Ending→World→Prop,R=StG x.b w:=⟨_,rfl⟩;rw[←hR];have HR:=Lib.hid hR;clear hR;have hE9:enBu x=[.int .i64 x.b.pid,.int .i64 x.b.at_,.slice x.a x.b.S.length x.c]:=rfl;have kc:=fun(V:World) (g:Nat) (hB:Blk V g 36 #[.int .i64 x.b.pid,.int .i64 x.b.at_,.slice x.a x.b.S.length x.c]) (hb:BuOk V x)=>check_any (some ⟨g,0,none⟩) 1 1 [x] V rfl (by decide) (seq_blk enBu_len hB (by simp[flat,hE9])) (fun y hy=>by simp at hy;rw[hy];exact hb) (fun y hy=>by simp at hy;rw[hy];exact hsm);rw[show[x].map Bu.b=[x.b]from rfl]at kc;have HOK:=Lib.hid hok;have HSM:=Lib.hid hsm;obtain⟨⟨pid,at_,S⟩,sa,sc⟩:=x;dsimp only at kc HOK HSM HR ⊢;clear hok hsm hE9;obtain⟨ns,hns⟩: ∃ns,S.length=ns:=⟨_,rfl⟩;have hb0:Below w.heap.size w ((w.alloc (.cells #[.int .i64 pid,.int .i64 at_,.slice sa ns sc] 36)).alloc (.cells #[.int .i64 pid,.int .i64 at_,.slice sa ns sc] 36)):=((Below.refl _ _).alloc (Nat.le_refl _) _).alloc (by simp) _;have hB1:Blk ((w.alloc (.cells #[.int .i64 pid,.int .i64 at_,.slice sa ns sc] 36)).alloc (.cells #[.int .i64 pid,.int .i64 at_,.slice sa ns sc] 36)) w.heap.size 36 #[.int .i64 pid,.int .i64 at_,.slice sa ns sc]:=Blk.alloc (Blk.new _ _ _) _;have kc1:=kc ((w.alloc (.cells #[.int .i64 pid,.int .i64 at_,.slice sa ns sc] 36)).alloc (.cells #[.int .i64 pid,.int .i64 at_,.slice sa ns sc] 36)) (w.heap.size+1) (by rw[hns];exact Blk.newAt _ _ _ (by simp)) (HOK.out.below (Nat.le_refl _) hb0);rw[hns];obtain⟨CE,hCE⟩: ∃CE,checkE 0 [⟨pid,at_,S⟩]=CE:=⟨_,rfl⟩;rw[hCE]at kc1;have HCE:=Lib.hid hCE;have HNS:=Lib.hid hns;clear kc hCE hns;by_cases hce:CE=0
 ·subst hce
  have hck:checkE 0 [⟨pid,at_,S⟩]=0:=HCE.out;rw[checkE]at hck
  have hrp:rightP pid at_:=by
   by_cases h:rightP pid at_
   ·exact h
   ·rw[if_pos h]at hck;cases hck
  have ha0:=hrp.2.2.1;have ha9:=hrp.2.2.2;have hn9:ns≤1000:=by rw[←HNS.out];exact HSM.out.1
  clear hck hrp
  go_enter Tryz.func23,Tryz.ntmps23
  go_wp2_with fail
  (with_reducible refine(kc1).mono ?_);rintro e1 W1 ⟨rfl,hb1⟩
  have hbW:=hb0.trans (hb1.mono hb0.size);have hB2:=Blk.below hB1 hb1 hB1.lt;have d0:=Blk.cell (hB2) 0 (v:= .int .i64 pid) rfl;have d1:=Blk.cell (hB2) 1 (v:= .int .i64 at_) rfl;have d2:=Blk.cell (hB2) 2 (v:= .slice sa ns sc) rfl;have HSQ:=Lib.hid HOK.out.s;dsimp only at HSQ;clear kc1 hb0 hB1 hb1
  go_wp2_with fail
  obtain⟨ls,hls⟩: ∃ls,S.map ByteArray.size=ls:=⟨_,rfl⟩;have HLS:=Lib.hid hls
  go_loopw [6,7,8,9,25] (fun vo ve sv fv iv wr=> ∃(q:Nat) (s:Int) (m:Nat) (O E:List Int),q≤ns∧iv= .int .i64 q∧sv= .int .i64 s∧fv= .int .i64 m∧Hid (Stq at_ ls ((stS (at_-1) 0 ls).map Prod.fst) ((stS (at_-1) 0 ls).map Prod.snd) q s m O E)∧Hid (St2 w wr vo ve O E)) (fun _ _ _ _ iv _=>ns-(intOf iv).toNat)
  case atStart=>exact⟨0,at_-1,0,[],[],by omega,rfl,rfl,rfl,Lib.hid ⟨rfl,rfl,by omega,by omega,by omega,rfl,rfl⟩,Lib.hid ⟨World.ownsRow_nil _ _ _ _,World.ownsRow_nil _ _ _ _,fun r h=>by simp[Value.ownBlock]at h,hbW⟩⟩
  case round=>
   obtain⟨q,s,m,O,E,hq,rfl,rfl,rfl,HQ,HM⟩:=hrel;by_cases hqn:q<ns
   ·have t1:decide (q<ns)=true:=decide_eq_true hqn
    obtain⟨x,hx⟩: ∃x,S[q]? =some x:=⟨_,List.getElem?_eq_getElem (by rw[HNS.out];exact hqn)⟩;obtain⟨b0,o0,rfl,hlt,hc⟩:=HSQ.out q x hx;have k0:(0:Int)≤(q:Int):=Int.natCast_nonneg _;have k1:(q:Int)<(ns:Int):=by omega
    have c0:=hc 0 _ rfl;rw[off_eq]at c0;rw[show o0+q*1+0=o0+q by omega]at c0;have c9:=(HM.out.be.cell (p:=⟨b0,o0+q,none⟩) hlt).trans c0;have hx5:x.size≤5000:=HSM.out.2 x (List.mem_of_getElem? hx)
    have hdr:ls.drop q=x.size::ls.drop (q+1):=by
     have hx2:ls[q]? =some x.size:=by rw[←HLS.out,List.getElem?_map,hx];rfl
     obtain⟨g1,g2⟩:=List.getElem?_eq_some_iff.1 hx2;rw[List.drop_eq_getElem_cons g1,g2]
    have HDR:=Lib.hid hdr;have hqb:=HQ.out.b;have hb1:=hqb.1;have hb5:=hqb.2.1;have hb2:s≤8000000:=by omega
    have hb3:(m:Int)≤183:=by omega
    have hb4:(0:Int)≤(m:Int):=Int.natCast_nonneg _;clear hc hx c0 hdr hqb
    go_wp2_with fail
    obtain⟨s1,m1,hs1⟩: ∃s1 m1,(m=0∧s1=s+1∧m1=183)∨(m≠0∧s1=s∧m1=m):=by
     by_cases h:m=0
     ·exact⟨_,_,Or.inl ⟨h,rfl,rfl⟩⟩
     ·exact⟨_,_,Or.inr ⟨h,rfl,rfl⟩⟩
    obtain⟨t1,t2,hst,hlo,hhi,ht2⟩:=stS_cons s m x.size (ls.drop (q+1)) s1 m1 hs1 (by omega);have HST:=Lib.hid (hHead HQ.out HDR.out hst);have HJ0:=Lib.hid (jf_start (C:=at_+5001*((q:Int)+1)) hlo hhi hx5 (by omega) (by omega) (by omega) (by omega));have HS1:=Lib.hid hs1;have hEl:E.length≤1000:=by have:=HQ.out.b;omega
    have hOl:O.length≤1000:=by have:=HQ.out.b;omega
    have HT2:=Lib.hid ht2;clear hst hlo hhi hs1 ht2;rename_i hKK;refine wp_scope_one 0 (J0 w pid at_ (.slice (some ⟨b0,o0,none⟩) ns sc) ns q t1 t2 (at_+5001*((q:Int)+1)) (O++[s1]) E) (fun a _=>num (a.tmps.getD 12 undef)) rfl ?_ ?_
    ·rintro a1 W ⟨u,vo,ve,s',f',r',rfl,hJ,hM⟩
     have HJ:=Lib.hid hJ;have HM2:=Lib.hid hM;unfold frS;obtain⟨b1,b2,b3,b4,b5⟩:=hJ.b;clear hJ hM c9 d1 d2 hB2 HM HJ0;by_cases h9:183≤r'
     ·have x1:decide (183≤r')=true:=decide_eq_true h9
      have hmx: ∀(ts:Array TypeId) (ty:TypeId) (V:World),(Builtin.max_ ts ty #[.int .i64 (r'-184),.int .i64 0]).run Tryz.prog V= .ok (.int .i64 (max (r'-184) 0)) V:=fun ts ty V=>by
       rw[run_max_int2]
       congr 2
       split<;>omega
      have HJB:=Lib.hid (HJ.out.big h9);have hmm:(max (r'-184) 0).toNat<r'.toNat:=by omega
      obtain⟨mx,hmxe⟩: ∃mx,max (r'-184) 0=mx:=⟨_,rfl⟩;rw[hmxe]at hmx HJB hmm;have HMM:=Lib.hid hmm;have z1:s'≤9000000:=by omega
      clear hmxe hmm b4 b5
      go_wp2_with fail
      go_step3
      exact⟨rfl,j0_intro (by kernel_rfl) HJB.out HM2.out,HMM.out⟩
     ·have x1:decide (183≤r')=false:=decide_eq_false h9
      by_cases h0:0<r'
      ·have x2:decide (0<r')=true:=decide_eq_true h0
       have HMD:=Lib.hid (HJ.out.mid (by omega) h0);have HB9:=Lib.hid (show -1≤s'+1∧s'+1≤at_+5001*((q:Int)+1)from by omega);have z1:s'≤9000000:=by omega
       clear b4 b5;have hb9:=Blk.new W 3 #[.int .i64 (s'+1)];have HM3:=Lib.hid (HM2.out.below ((Below.refl _ _).alloc (Nat.le_refl _) (.cells #[.int .i64 (s'+1)] 3)));have hz:=HM3.out.be.size;clear HM2
       go_wp2_with (at_builtin;refine ApG.wpList_appG rfl _ _ rfl elem1 rfl HM3.out.o2 rfl rfl (blk_news hb9) (by simp[Value.oneCell']) (by omega) (by unfold maxLen;omega) hz ?_)
       intro v9 w9 hown9 hgr9 hat9;have HM4:=Lib.hid (HM3.out.add2 hown9 hgr9 (by simpa using hat9));clear HM3 hz hb9 hown9 hgr9 hat9
       go_wp2_with fail
       simp only[Exit.jump,Exit.inBlock,Exit.then];refine hKK _ _ ?_
       go_wp2_with fail
       go_roundw
       case rel=>exact⟨q+1,t1,t2,_,_,by omega,by go_num,by rw[←HMD.out.1],by rw[←HMD.out.2],Lib.hid (HST.out.2 (HMD.out.1.symm▸HB9.out) HT2.out),by rw[←HMD.out.1]at*;exact HM4⟩
       case measure=>simp[intOf];omega
      ·have x2:decide (0<r')=false:=decide_eq_false h0
       have HMD:=Lib.hid (HJ.out.lo (by omega));have HB9:=Lib.hid (show -1≤s'∧s'≤at_+5001*((q:Int)+1)from by omega);have z1:s'≤9000000:=by omega
       clear b4 b5;have hb9:=Blk.new W 3 #[.int .i64 (s')];have HM3:=Lib.hid (HM2.out.below ((Below.refl _ _).alloc (Nat.le_refl _) (.cells #[.int .i64 (s')] 3)));have hz:=HM3.out.be.size;clear HM2
       go_wp2_with (at_builtin;refine ApG.wpList_appG rfl _ _ rfl elem1 rfl HM3.out.o2 rfl rfl (blk_news hb9) (by simp[Value.oneCell']) (by omega) (by unfold maxLen;omega) hz ?_)
       intro v9 w9 hown9 hgr9 hat9;have HM4:=Lib.hid (HM3.out.add2 hown9 hgr9 (by simpa using hat9));clear HM3 hz hb9 hown9 hgr9 hat9
       go_wp2_with fail
       simp only[Exit.jump,Exit.inBlock,Exit.then];refine hKK _ _ ?_
       go_wp2_with fail
       go_roundw
       case rel=>exact⟨q+1,t1,t2,_,_,by omega,by go_num,by rw[←HMD.out.1],by rw[←HMD.out.2],Lib.hid (HST.out.2 (HMD.out.1.symm▸HB9.out) HT2.out),by rw[←HMD.out.1]at*;exact HM4⟩
       case measure=>simp[intOf];omega
    ·intro bd
     rcases HS1.out with⟨rfl,rfl,rfl⟩|⟨hm0,rfl,rfl⟩
     ·have hb9:=Blk.new wr 3 #[.int .i64 (s+1)]
      have HM3:=Lib.hid (HM.out.below ((Below.refl _ _).alloc (Nat.le_refl _) (.cells #[.int .i64 (s+1)] 3)));have hz:=HM3.out.be.size;clear HM
      go_wp2_with (at_builtin;refine ApG.wpList_appG rfl _ _ rfl elem1 rfl HM3.out.o1 rfl rfl (blk_news hb9) (by simp[Value.oneCell']) (by omega) (by unfold maxLen;omega) hz ?_)
      intro v9 w9 hown9 hgr9 hat9;have HM4:=Lib.hid (HM3.out.add1 hown9 hgr9 (by simpa using hat9));clear HM3 hz hb9 hown9 hgr9 hat9
      go_wp2_with fail
      go_step3
      rename_i hK;refine hK _ _ ?_;exact bd _ _ (j0_intro (by kernel_rfl) HJ0.out HM4.out)
     ·have y1:((m1:Int)==0)=false:=beq_eq_false_iff_ne.2 (by omega)
      have hb9:=Blk.new wr 3 #[.int .i64 (s1)];have HM3:=Lib.hid (HM.out.below ((Below.refl _ _).alloc (Nat.le_refl _) (.cells #[.int .i64 (s1)] 3)));have hz:=HM3.out.be.size;clear HM
      go_wp2_with (at_builtin;refine ApG.wpList_appG rfl _ _ rfl elem1 rfl HM3.out.o1 rfl rfl (blk_news hb9) (by simp[Value.oneCell']) (by omega) (by unfold maxLen;omega) hz ?_)
      intro v9 w9 hown9 hgr9 hat9;have HM4:=Lib.hid (HM3.out.add1 hown9 hgr9 (by simpa using hat9));clear HM3 hz hb9 hown9 hgr9 hat9
      go_wp2_with fail
      go_step3
      rename_i hK;refine hK _ _ ?_;exact bd _ _ (j0_intro (by kernel_rfl) HJ0.out HM4.out)
   ·obtain rfl:q=ns:=by omega
    have t1:decide (q<q)=false:=by simp
    have HF:=Lib.hid (show O=(stS (at_-1) 0 ls).map Prod.fst∧E=(stS (at_-1) 0 ls).map Prod.snd from by
     have h1:=HQ.out.o;have h2:=HQ.out.e;rw[List.drop_of_length_le (by rw[←HLS.out,List.length_map,HNS.out];exact Nat.le_refl _)]at h1 h2;exact⟨by rw[←h1];simp[stS],by rw[←h2];simp[stS]⟩)
    go_wp2_with fail
    go_ret3
    rw[HR.out];refine⟨HM.out.be,fun h=>absurd HCE.out h,fun _=>⟨_,_,rfl,?_⟩⟩;rw[HLS.out];obtain⟨e1,e2⟩:=HF.out;rw[←e1,←e2];exact HM.out
 ·have t1:(CE==0)=false:=beq_eq_false_iff_ne.2 hce
  go_enter Tryz.func23,Tryz.ntmps23
  go_wp2_with fail
  (with_reducible refine(kc1).mono ?_);rintro e1 W1 ⟨rfl,hb1⟩
  have hbW:=hb0.trans (hb1.mono hb0.size)
  go_wp2_with fail
  go_ret3
  rw[HR.out];exact⟨hbW,fun _=>by rw[HCE.out];rfl,fun h=>absurd (HCE.out.symm.trans h) hce⟩
end Go.Proofs.YtibjkhepedfpiaaGreatDoor.StA
