import Derived.Test.YtdbpkhnmhddmmaaGreatDoorRnPkW
namespace Go.Proofs.YtdbpkhnmhddmmaaGreatDoor.MdA
open Go Go.RowKit Q Mem Rg Ap St BiW BiG Ints TbM GfP PoP RsP GfA PoA
set_option maxRecDepth 100000
structure Lost (L:List Nat):Prop where
 nd:L.Nodup
 lt: ∀n∈L,n<255
 le:L.length≤64
def zI (L:List Nat):List Int:=L.map (fun n:Nat=>(n:Int))
theorem zI_at {L:List Nat} {k n:Nat} (h:L[k]? =some n):(zI L)[k]? =some (n:Int):=by unfold zI;rw[List.getElem?_map,h];rfl
def z255:Array Value:=Array.replicate 255 (.bool false)
theorem seen_zero (w:World) (g:Nat) (hg:g=w.heap.size) (L:List Nat):Fm (w.alloc (.cells z255 227)) g 227 255 (fun k=> .bool (decide (k∈L.take 0))):=by
 refine⟨z255,Blk.newAt w _ _ hg,by simp[z255],fun i hi=>?_⟩;simp[z255,hi]
theorem seen_step {L:List Nat} {k n:Nat} (h:L[k]? =some n) (j:Nat):(if j=n then Value.bool true else .bool (decide (j∈L.take k)))= .bool (decide (j∈L.take (k+1))):=by
 rw[List.take_add_one,h,Option.toList_some];by_cases e:j=n
 ·rw[if_pos e,e];simp
 ·rw[if_neg e]
  congr 1
  simp[e]
theorem not_seen {L:List Nat} (hn:L.Nodup) {k n:Nat} (h:L[k]? =some n):decide (n∈L.take k)=false:=by
 refine decide_eq_false (fun hm=>?_);obtain⟨i,hi⟩:=List.mem_iff_getElem?.1 hm
 have hik:i<k:=by
  have:=(List.getElem?_eq_some_iff.1 hi).1;rw[List.length_take]at this;omega
 rw[List.getElem?_take_of_lt hik]at hi;have:=(List.getElem?_inj (List.getElem?_eq_some_iff.1 hi).1 hn).1 (hi.trans h.symm);omega
set_option maxHeartbeats 1600000 in
theorem places_any (w:World) (a:Option Addr) (c n:Nat) (L:List Nat) (hL:Lost L) (hn:L.length=n) (h:Ints w a (zI L)):
 Calls Tryz.prog 191 #[.slice a n c] w fun e w'=>e= .returned (.bool true)∧Below w.heap.size w w':=by
 have hz: ∀V:World,(zeroValue 227).run Tryz.prog V= .ok (.agg z255) V:=fun V=>by kernel_rfl
 have hn64:n≤64:=by rw[←hn];exact hL.le
 have hS0:=seen_zero w w.heap.size rfl L;have hb0:=(Below.refl w.heap.size w).alloc (Nat.le_refl _) (.cells z255 227);have HL:=Lib.hid hL;have HN:=Lib.hid hn;have HI:=Lib.hid h;obtain⟨g,hg⟩: ∃g,w.heap.size=g:=⟨_,rfl⟩;rw[hg]at hS0 hb0;clear hL hn h
 go_enter Tryz.func191,Tryz.ntmps191
 go_wp2_with fail
 go_loopw [8] (fun iv W=> ∃k:Nat,k≤n∧iv= .int .i64 k∧Fm W g 227 255 (fun j=> .bool (decide (j∈L.take k)))∧Below g w W) (fun iv _=>n-(intOf iv).toNat)
 case atStart=>exact⟨0,by omega,rfl,hS0,hb0⟩
 case round=>
  clear hS0 hb0;obtain⟨k,hk,rfl,hS,hb⟩:=hrel;have k0:(0:Int)≤(k:Int):=Int.natCast_nonneg _;by_cases hkn:k<n
  ·have t0:decide ((k:Int)<(n:Int))=true:=decide_eq_true (by omega)
   have t0':decide (k<n)=true:=decide_eq_true hkn;obtain⟨m,hm⟩: ∃m,L[k]? =some m:=⟨_,List.getElem?_eq_getElem (by rw[HN.out];exact hkn)⟩;obtain⟨b,o,rfl,hlt,hc⟩:=HI.out k _ (zI_at hm);have hc2:wr.cell? ⟨b,o+k,none⟩=some (.int .i64 (m:Int)):=(World.cell?_of_block (a:=⟨b,o+k,none⟩) (hb.block b (by omega))).trans hc;have hm255:=HL.out.lt m (List.mem_of_getElem? hm);have c0:=hS.cell m hm255;rw[not_seen HL.out.nd hm]at c0;have c1:=hS.frozen m;have t1:decide ((m:Int)<0)=false:=decide_eq_false (by omega);have t2:decide (254<(m:Int))=false:=decide_eq_false (by omega);have m0:(0:Int)≤(m:Int):=Int.natCast_nonneg _;have m1:(m:Int)<255:=by omega
   have k1:(k:Int)<(n:Int):=by omega
   have hS9:=(hS.put m (.bool true)).congr (f':=fun j=> .bool (decide (j∈L.take (k+1)))) (fun j _=>seen_step hm j);have hb9:Below g w (wr.setCell ⟨g,m,none⟩ (.bool true)):=hb.setCell (by show g≤g;omega) _;have H9:=Lib.hid (And.intro hS9 hb9);clear hS hb hm hc hlt hS9 hb9
   go_wp2_with fail
   go_roundw
   case rel=>exact⟨k+1,by omega,by go_num,H9.out.1,H9.out.2⟩
   case measure=>simp[intOf];omega
  ·obtain rfl:k=n:=by omega
   have t0:decide ((k:Int)<(k:Int))=false:=decide_eq_false (by omega);have t0':decide (k<k)=false:=decide_eq_false (by omega)
   go_wp2_with fail
   go_ret;exact⟨rfl,by rw[hg];exact hb⟩
theorem room_any (w:World) (n:Nat) (h:n≤64):Calls Tryz.prog 192 #[.int .i64 (n:Int)] w fun e w'=>e= .returned (.int .i64 (((64-n)/2:Nat):Int))∧w=w':=by
 have t1:decide ((n:Int)<0)=false:=decide_eq_false (by omega);have t2:decide (64<(n:Int))=false:=decide_eq_false (by omega);have n0:(0:Int)≤(n:Int):=Int.natCast_nonneg _;have n1:(n:Int)≤64:=by omega
 have e1:(((64-n)/2:Nat):Int)=(64-(n:Int))/2:=by omega
 rw[e1];clear e1 h
 go_enter Tryz.func192,Tryz.ntmps192
 go_wp2_with fail
 go_ret;exact⟨rfl,rfl⟩
def locL (L:List Nat):List UInt8:=L.foldl (fun p n=>trimL (mulL p [1,loc n])) [1]
theorem loc_snoc (L:List Nat) (n:Nat):locL (L++[n])=trimL (mulL (locL L) [1,loc n]):=by unfold locL;rw[List.foldl_append];rfl
theorem cv_mulx (p:List UInt8) (X:UInt8) (n:Nat):cv (fa p) (fa [1,X]) n=mulx X (fa p) n:=by rw[cv_comm,cv_two,one_gm];rfl
theorem loc_is (L:List Nat):(∀n,fa (locL L) n=lam (L.map loc) n)∧(locL L).length=L.length+1:=by
 have key: ∀k,k≤L.length→(∀n,fa (locL (L.take k)) n=lam ((L.take k).map loc) n)∧(locL (L.take k)).length=k+1:=fun k=>by
  induction k with
  |zero=>
   intro _;refine⟨fun n=>?_,rfl⟩;show fa [1] n=one n;unfold one
   cases n with
   |zero=>rfl
   |succ n=>rw[if_neg (by omega)];exact fa_out (by simp)
  |succ k ih=>
   intro hk;obtain⟨h1,h2⟩:=ih (by omega);obtain⟨m,hm⟩: ∃m,L[k]? =some m:=⟨_,List.getElem?_eq_getElem (by omega)⟩;have hT:L.take (k+1)=L.take k++[m]:=by rw[List.take_add_one,hm];rfl
   have hl:(L.take k).length=k:=by rw[List.length_take];omega
   have h3: ∀n,fa (mulL (locL (L.take k)) [1,loc m]) n=lam ((L.take (k+1)).map loc) n:=fun n=>by
    rw[fa_mulL,cv_mulx,hT,List.map_append,List.map_singleton];rw[show lam ((L.take k).map loc++[loc m])=lam (loc m::(L.take k).map loc)from lam_perm List.perm_append_comm,lam];unfold mulx up;rw[h1];by_cases h:n=0
    ·rw[if_pos h,if_pos h]
    ·rw[if_neg h,if_neg h,h1]
   have hlen:((L.take (k+1)).map loc).length=k+1:=by rw[List.length_map,List.length_take];omega
   have htop:=lam_top ((L.take (k+1)).map loc) (fun X hX=>by
    obtain⟨n,_,rfl⟩:=List.mem_map.1 hX;exact loc_ne n)
   rw[hlen]at htop;rw[hT,loc_snoc,←hT];exact⟨fun n=>by rw[fa_trim,h3],trim_deg (fun i hi=>by rw[h3];exact lam_deg _ _ (by rw[hlen];exact hi)) (by rw[h3];exact htop)⟩
 have:=key L.length (Nat.le_refl _)
 rwa [List.take_length]at this
theorem conv_one (V:World) (x:UInt8) (g:Nat) (hg:g=V.heap.size):(convert 147 9 (.slice (some ⟨g,0,none⟩) 2 2)).run Tryz.prog (V.alloc (.cells #[.int .u8 1,.int .u8 (x.toNat:Int)] 5))= .ok (.string (str [1,x])) (V.alloc (.cells #[.int .u8 1,.int .u8 (x.toNat:Int)] 5)):=by
 have:=conv_new V [1,(x.toNat:Int)] 2 g #[.int .u8 1,.int .u8 (x.toNat:Int)] rfl rfl hg;rw[this,nums_str]
 congr 3
 simp
set_option maxHeartbeats 1600000 in
theorem loc_any (w:World) (a:Option Addr) (c n:Nat) (L:List Nat) (hL:Lost L) (hn:L.length=n) (h:Ints w a (zI L)):
 Calls Tryz.prog 205 #[.slice a n c] w fun e w'=>e= .returned (.tuple #[.string (str (locL L)),.int .i64 0])∧Below w.heap.size w w':=by
 have kp:=places_any w a c n L hL hn h;have hn64:n≤64:=by rw[←hn];exact hL.le
 have HL:=Lib.hid hL;have HN:=Lib.hid hn;have HI:=Lib.hid h;clear hL hn h
 go_enter Tryz.func205,Tryz.ntmps205
 go_wp2_with fail
 (with_reducible refine(kp).mono ?_);rintro e1 W1 ⟨rfl,hb1⟩
 have kn:=GfA.new_any W1;clear kp
 go_wp2_with fail
 (with_reducible refine(kn).mono ?_);rintro e2 W2 ⟨rfl,hF2,hb2⟩
 obtain⟨g,hg⟩: ∃g,W1.heap.size=g:=⟨_,rfl⟩;have hgs:=hb1.size;rw[hg]at hF2 hb2 hgs;have hbw:Below w.heap.size w W2:=hb1.trans (hb2.mono hgs);clear kn hb1 hb2
 go_wp2_with fail
 go_loopw [5,14] (fun pv iv W=> ∃k:Nat,k≤n∧iv= .int .i64 k∧pv= .string (str (locL (L.take k)))∧Fld W g∧Below w.heap.size w W) (fun _ iv _=>n-(intOf iv).toNat)
 case atStart=>exact⟨0,by omega,rfl,rfl,hF2,hbw⟩
 case round=>
  clear hF2 hbw;obtain⟨k,hk,rfl,rfl,hF,hb⟩:=hrel;have k0:(0:Int)≤(k:Int):=Int.natCast_nonneg _;by_cases hkn:k<n
  ·have t0:decide ((k:Int)<(n:Int))=true:=decide_eq_true (by omega)
   have t0':decide (k<n)=true:=decide_eq_true hkn;obtain⟨m,hm⟩: ∃m,L[k]? =some m:=⟨_,List.getElem?_eq_getElem (by rw[HN.out];exact hkn)⟩;obtain⟨b,o,rfl,hlt,hc⟩:=HI.out k _ (zI_at hm);have hc2:wr.cell? ⟨b,o+k,none⟩=some (.int .i64 (m:Int)):=(World.cell?_of_block (a:=⟨b,o+k,none⟩) (hb.block b hlt)).trans hc;have hm255:=HL.out.lt m (List.mem_of_getElem? hm);have kx:=exp_any wr g (254-m) hF (by omega);rw[show((254-m:Nat):Int)=254-(m:Int) by omega,show ex (254-m)=loc m from rfl]at kx;have HS:=Lib.hid (show locL (L.take (k+1))=trimL (mulL (locL (L.take k)) [1,loc m]) by rw[List.take_add_one,hm,Option.toList_some,loc_snoc]);have hll:=(loc_is (L.take k)).2;rw[List.length_take]at hll;obtain⟨x,hx⟩: ∃x,loc m=x:=⟨_,rfl⟩;rw[hx]at kx HS;have hcv:=conv_one wr x wr.heap.size rfl;have hF2:Fld (wr.alloc (.cells #[.int .u8 1,.int .u8 (x.toNat:Int)] 5)) g:=Fm.alloc hF _;have hb2:=hb.alloc hb.size (.cells #[.int .u8 1,.int .u8 (x.toNat:Int)] 5);have km:=fun V=>PoA.mul_any (str (locL (L.take k))) (str [1,x]) V (by rw[str_size];omega) (by rw[str_size];simp);rw[bl_str,bl_str,←HS.out]at km;have m0:(0:Int)≤(m:Int):=Int.natCast_nonneg _;have m1:(m:Int)<255:=by omega
   have k1:(k:Int)<(n:Int):=by omega
   clear hm hc hlt hx hll hF hb
   go_wp2_with fail
   (with_reducible refine(kx).mono ?_);rintro e3 W3 ⟨rfl,rfl⟩
   clear kx
   go_wp2_with fail
   (with_reducible refine(km _).mono ?_);rintro e4 W4 ⟨rfl,hb4⟩
   have hF4:=hF2.be hb4;have hb5:=hb2.trans (hb4.mono hb2.size);clear km hF2 hb2 hb4 hcv
   go_wp2_with fail
   go_roundw
   case rel=>exact⟨k+1,by omega,by go_num,rfl,hF4,hb5⟩
   case measure=>simp[intOf];omega
  ·obtain rfl:k=n:=by omega
   have t0:decide ((k:Int)<(k:Int))=false:=decide_eq_false (by omega);have t0':decide (k<k)=false:=decide_eq_false (by omega);have HT:=Lib.hid (show L.take k=L by rw[←HN.out,List.take_length]);rw[HT.out]
   go_wp2_with fail
   go_ret2
   exact⟨rfl,hb⟩
end Go.Proofs.YtdbpkhnmhddmmaaGreatDoor.MdA
namespace Go.Proofs.YtdbpkhnmhddmmaaGreatDoor.MdB
open Go Go.RowKit Q Mem Rg Ap St BiW BiG CrB Scp TbM GfP PoP RsP GfA PoA MdA
set_option maxRecDepth 100000
theorem trim_same {l:List UInt8} {K:Nat} (h:l.length=K+1) (ht:fa l K≠0):trimL l=l:=by
 obtain⟨c,hc⟩: ∃c,l[K]? =some c:=⟨_,List.getElem?_eq_getElem (by omega)⟩;have:=(trim_take hc).2 (by rw[←fa_in hc];exact ht)
 rwa [List.take_of_length_le (by omega)]at this
theorem loc_trim (L:List Nat):trimL (locL L)=locL L:=by
 obtain⟨h1,h2⟩:=loc_is L;refine trim_same h2 ?_;rw[h1]
 have:=lam_top (L.map loc) (fun X hX=>by
  obtain⟨n,_,rfl⟩:=List.mem_map.1 hX;exact loc_ne n)
 rwa [List.length_map]at this
def gapI (lo s:ByteArray) (r k:Nat):UInt8:=sm (fun j=>gm (fa (bl lo) j) (fa (bl s) (r-j))) k
theorem gap_end {lo s:ByteArray} {r K:Nat} (h:lo.size=K+1) (hr:K≤r):gapI lo s r (K+1)=cv (fa (bl lo)) (fa (bl s)) r:=
 (sm_more (by omega) (fun i h1 _=>by rw[fa_out (by rw[bl_len];omega),zero_gm])).symm
def tm (a:Act) (k:Nat):Value:=a.tmps.getD k undef
def frL (g K:Nat) (s lo o:ByteArray) (r:Nat) (u:Nat→Value):Act:={tmps:= #[.pointer (some ⟨g,0,none⟩),.string s,.string lo,u 3,u 4,u 5,.string ⟨#[]⟩,.int .i64 0,.int .i64 (K:Int),.string lo,.string o,.int .i64 (K:Int),.int .i64 (r:Int),u 13,u 14,u 15,u 16,u 17,u 18,u 19,u 20,u 21,u 22,u 23,u 24,u 25,u 26,u 27,u 28,u 29,u 30,u 31,u 32,u 33,u 34,u 35,u 36,u 37,u 38,u 39,u 40,u 41,u 42,u 43,u 44,u 45,u 46,u 47,u 48,u 49,u 50,u 51,u 52,u 53,u 54,u 55,u 56,u 57,u 58,u 59,u 60,u 61,u 62,u 63,u 64,u 65,u 66,u 67,u 68,u 69,u 70,u 71,u 72,u 73,u 74,u 75,u 76,u 77,u 78,u 79,u 80,u 81,u 82,u 83],defers:=[]}
def J0 (w:World) (g K:Nat) (s lo:ByteArray) (a:Act) (W:World):Prop:=
 ∃(u:Nat→Value) (o:ByteArray) (r:Nat),a=frL g K s lo o r u∧K≤r∧r≤64∧o.size≤lo.size+r∧Fld W g∧Below w.heap.size w W
theorem j0_intro {w W:World} {g K r:Nat} {s lo o:ByteArray} {a:Act} (h:a=frL g K s lo o r (tm a)) (h1:K≤r) (h2:r≤64) (h3:o.size≤lo.size+r) (hF:Fld W g) (hb:Below w.heap.size w W):J0 w g K s lo a W:=⟨tm a,o,r,h,h1,h2,h3,hF,hb⟩
def num (v:Value):Nat:=match v with| .int _ i=>i.toNat|_=>0
set_option maxHeartbeats 3200000 in
theorem locator_in (w:World) (g K:Nat) (s lo:ByteArray) (hF:Fld w g) (hs:s.size=64) (hlo:lo.size=K+1) (hK:K≤64) (ht:trimL (bl lo)=bl lo) (hgap: ∀r,K≤r→r<64→cv (fa (bl lo)) (fa (bl s)) r=0):
 Calls Tryz.prog 206 #[.pointer (some ⟨g,0,none⟩),.string s,.string lo] w fun e w'=>e= .returned (.tuple #[.string lo,.int .i64 (K:Int)])∧Below w.heap.size w w':=by
 obtain⟨R,hR⟩: ∃R:Ending→World→Prop,R=(fun e w'=>e= .returned (.tuple #[.string lo,.int .i64 (K:Int)])∧Below w.heap.size w w'):=⟨_,rfl⟩;rw[←hR];have HR:=Lib.hid hR;have HN:=Lib.hid (And.intro hs (And.intro hlo hK));have HG:=Lib.hid hgap;have HF:=Lib.hid hF;have kd:=degree_any lo w (by omega);have kt:=fun V=>trim_any lo V (by omega);rw[ht,str_bl]at kt;rw[ht,bl_len,hlo,show((K+1:Nat):Int)-1=(K:Int) by omega]at kd;have q0:(0:Int)≤(K:Int):=Int.natCast_nonneg _;have q1:(K:Int)≤64:=by omega
 clear hR hs hlo hK ht hgap hF
 go_enter Tryz.func206,Tryz.ntmps206
 go_wp2_with fail
 refine wp_scope_one 0 (J0 w g K s lo) (fun a _=>65-num (a.tmps.getD 12 undef)) rfl ?_ ?_
 ·rintro a1 W ⟨u,o,r,rfl,hKr,hr,ho,hF,hb⟩
  have HFW:=Lib.hid hF;have HB:=Lib.hid hb;unfold frL;clear hF hb kd HF;have r0:(0:Int)≤(r:Int):=Int.natCast_nonneg _;by_cases hr64:r=64
  ·have t0:((r:Int)==64)=true:=by rw[hr64];rfl
   have k:=kt W;clear kt
   go_wp2_with fail
   (with_reducible refine(k).mono ?_);rintro e1 W1 ⟨rfl,rfl⟩
   clear k
   go_wp2_with fail
   rw[HR.out];exact⟨rfl,HB.out⟩
  ·have t0:((r:Int)==64)=false:=beq_eq_false_iff_ne.2 (by omega)
   have r1:(r:Int)<64:=by omega
   clear kt
   go_wp2_with fail
   go_loopw [13,14] (fun pv iv V=> ∃k:Nat,k≤K+1∧iv= .int .i64 k∧pv= .int .u8 ((gapI lo s r k).toNat:Int)∧Fld V g∧Below w.heap.size w V) (fun _ iv _=>K+1-(intOf iv).toNat)
   case atStart=>exact⟨0,by omega,rfl,rfl,HFW.out,HB.out⟩
   case round=>
    obtain⟨k,hk,rfl,rfl,hF,hb⟩:=hrel;have k0:(0:Int)≤(k:Int):=Int.natCast_nonneg _;by_cases hkn:k<K+1
    ·have t1:decide ((k:Int)<(lo.size:Int))=true:=decide_eq_true (by have:=HN.out.2.1;omega)
     have t2:decide ((k:Int)≤(r:Int))=true:=decide_eq_true (by omega);have t1':decide (k<lo.size)=true:=decide_eq_true (by have:=HN.out.2.1;omega);have t2':decide (k≤r)=true:=decide_eq_true (by omega);obtain⟨x,hx⟩: ∃x,(bl lo)[k]? =some x:=⟨_,List.getElem?_eq_getElem (by rw[bl_len,HN.out.2.1];exact hkn)⟩;obtain⟨y,hy⟩: ∃y,(bl s)[r-k]? =some y:=⟨_,List.getElem?_eq_getElem (by rw[bl_len,HN.out.1];omega)⟩;have ix:=ix_of hx;have iy:=ix_of hy;rw[show((r-k:Nat):Int)=(r:Int)-(k:Int) by omega]at iy;have HS:=Lib.hid (show gapI lo s r (k+1)=gapI lo s r k^^^gm x y by rw[gapI,sm,fa_in hx,fa_in hy];rfl);obtain⟨m,hm⟩: ∃m,gapI lo s r k=m:=⟨_,rfl⟩;rw[hm]at HS ⊢;have qx:=xor_g m (gm x y);have k1:(k:Int)≤(r:Int):=by omega
     clear hm hx hy
     go_wp2_with fail
     refine Go.Proofs.YtdbpkhnmhddmmaaGreatDoor.Rg.region_new [(10,val (.int .u8 ((gm x y).toNat:Int)))] 12 (by kernel_rfl) (by kernel_rfl) (by kernel_rfl) (lk_cons val_inh lk_nil) (lk_cons val_mono lk_nil) ?_;intro σ hσ;simp only[List.take_succ_cons,List.take_zero,List.drop_succ_cons,List.drop_zero];have hs10:σ 10= .int .u8 ((gm x y).toNat:Int):=hσ 10 _ rfl;refine Go.Proofs.YtdbpkhnmhddmmaaGreatDoor.Rg.wpN_take 10 (by kernel_rfl) (by kernel_rfl) (by kernel_rfl) ?_;simp only[List.take_succ_cons,List.take_zero,List.drop_succ_cons,List.drop_zero]
     repeat (go_big_quiet_step (fail))
     refine wpQuiet_nil ?_;refine wpN_sp _ rfl (by kernel_rfl) (spAt_val (f:=200) (args:= #[.pointer (some ⟨g,0,none⟩),.int .u8 (x.toNat:Int),.int .u8 (y.toNat:Int)]) (by intro w0;go_simp) (fun p _=>GfA.mul_any _ g x y (Fm.ext hF p))) ?_;simp only[Act.put,List.setIfInBounds_toArray,List.set_cons_zero,List.set_cons_succ];rw[hs10];refine Go.Proofs.YtdbpkhnmhddmmaaGreatDoor.Rg.wpN_take 1 (by kernel_rfl) (by kernel_rfl) (by kernel_rfl) ?_;simp only[List.take_succ_cons,List.take_zero,List.drop_succ_cons,List.drop_zero]
     repeat (go_big_quiet_step (fail))
     refine wpQuiet_nil ?_;refine wpN_nil ?_;rintro w9 ⟨pq,rfl⟩ _;have hF9:Fld (ext wr pq) g:=Fm.ext hF pq;have hb9:Below w.heap.size w (ext wr pq):=hb.trans ((below_ext wr pq).mono hb.size);have H9:=Lib.hid (And.intro hF9 hb9);clear hF hb hF9 hb9 hσ hs10
     go_wp2_with fail
     go_roundw
     case rel=>exact⟨k+1,by omega,by go_num,by rw[HS.out,UInt8.toNat_xor],H9.out.1,H9.out.2⟩
     case measure=>simp[intOf];omega
    ·have t1:decide ((k:Int)<(lo.size:Int))=false:=decide_eq_false (by have:=HN.out.2.1;omega)
     have t1':decide (k<lo.size)=false:=decide_eq_false (by have:=HN.out.2.1;omega);have hg0:gapI lo s r k=0:=by rw[show k=K+1 by omega,gap_end HN.out.2.1 hKr];exact HG.out r hKr (by omega)
     rw[hg0];have ha:=add_at ⟨#[0]⟩ o (by have:=HN.out;show 1+o.size≤_;omega);have hsz:(⟨#[0]⟩++o:ByteArray).size≤lo.size+(r+1):=by rw[ByteArray.size_append];show 1+o.size≤_;omega
     obtain⟨o2,ho2⟩: ∃o2,(⟨#[0]⟩++o:ByteArray)=o2:=⟨_,rfl⟩;rw[ho2]at ha hsz;have H9:=Lib.hid (And.intro hF hb);clear hF hb ho2 hg0
     go_wp2_with fail
     rw[show(r:Int)+1=((r+1:Nat):Int) by omega]
     go_step3
     refine⟨rfl,j0_intro (r:=r+1) (o:=o2) (by kernel_rfl) (by omega) (by omega) hsz H9.out.1 H9.out.2,?_⟩;show 65-((r+1:Nat):Int).toNat<65-((r:Nat):Int).toNat;omega
 ·intro b0
  go_wp2_with fail
  (with_reducible refine(kd).mono ?_);rintro e1 W1 ⟨rfl,rfl⟩
  clear kd kt
  go_wp2_with fail
  go_step3
  rename_i hK;refine hK _ _ ?_;exact b0 _ _ (j0_intro (r:=K) (o:=lo) (by kernel_rfl) (by omega) (by have:=HN.out;omega) (by omega) HF.out (Below.refl _ _))
theorem locator_any (w:World) (g:Nat) (s:ByteArray) (L:List Nat) (hL:L.length≤64) (hF:Fld w g) (hs:s.size=64) (hgap: ∀r,L.length≤r→r<64→cv (lam (L.map loc)) (fa (bl s)) r=0):
 Calls Tryz.prog 206 #[.pointer (some ⟨g,0,none⟩),.string s,.string (str (locL L))] w fun e w'=>e= .returned (.tuple #[.string (str (locL L)),.int .i64 (L.length:Int)])∧Below w.heap.size w w':=by
 obtain⟨h1,h2⟩:=loc_is L;refine locator_in w g L.length s (str (locL L)) hF hs (by rw[str_size,h2]) hL (by rw[bl_str,loc_trim]) (fun r h3 h4=>?_);rw[bl_str,show fa (locL L)=lam (L.map loc)from funext h1];exact hgap r h3 h4
end Go.Proofs.YtdbpkhnmhddmmaaGreatDoor.MdB
namespace Go.Proofs.YtdbpkhnmhddmmaaGreatDoor.MdC
open Go Go.RowKit Q Mem Rg Ap St BiW BiG CrB Scp Fl TbM GfP PoP RsP GfA PoA PoB MdA MdB
set_option maxRecDepth 100000
def evL (p:List UInt8) (x:UInt8):UInt8:=ev (fa p) p.length x
def valL (s lo:List UInt8):List UInt8:=trimL ((trimL (mulL s lo)).take 64)
def cpx (e:UInt8) (n:Nat):Value:= .complex .f64 (floatOfInt .f64 (e.toNat:Int)) (floatOfInt .f64 (n:Int))
def upTo (L:List Nat) (k:Nat):List Nat:=(List.range k).filter (fun n=>decide (n∈L))
def wsL (L:List Nat) (E:Nat→UInt8) (k:Nat):List Value:=(upTo L k).map (fun n=>cpx (E n) n)
theorem upTo_in {L:List Nat} {k:Nat} (h:k∈L):upTo L (k+1)=upTo L k++[k]:=by
 unfold upTo;rw[List.range_succ,List.filter_append];simp[h]
theorem upTo_out {L:List Nat} {k:Nat} (h:k∉L):upTo L (k+1)=upTo L k:=by
 unfold upTo;rw[List.range_succ,List.filter_append];simp[h]
theorem upTo_mem (L:List Nat) (k n:Nat):n∈upTo L k↔n<k∧n∈L:=by
 unfold upTo;simp
theorem upTo_nodup (L:List Nat) (k:Nat):(upTo L k).Nodup:=(List.nodup_range).sublist List.filter_sublist
theorem upTo_perm {L:List Nat} (hL:Lost L):(upTo L 255).Perm L:=by
 refine(List.perm_ext_iff_of_nodup (upTo_nodup L 255) hL.nd).2 (fun n=>?_);rw[upTo_mem];exact⟨fun h=>h.2,fun h=>⟨hL.lt n h,h⟩⟩
theorem upTo_len {L:List Nat} (hL:Lost L):(upTo L 255).length=L.length:=(upTo_perm hL).length_eq
theorem upTo_le (L:List Nat) (k:Nat):(upTo L k).length≤k:=by
 unfold upTo;have:=List.length_filter_le (fun n=>decide (n∈L)) (List.range k);simpa using this
theorem elemC:Elem Tryz.prog 319 212 1 16:=elem_of Tryz.underlying319 (z:= .complex .f64 0 0) (by kernel_rfl) rfl (by decide)
theorem wrongs_in (w:World) (g:Nat) (s lo:ByteArray) (L:List Nat) (E:Nat→UInt8) (hL:Lost L) (hF:Fld w g) (hs:s.size=64) (hlo:lo.size≤65)
 (h1: ∀n,n<255→(n∈L↔evL (bl lo) (gi (loc n))=0))
 (h3: ∀n∈L,evL (trimL (slL (bl lo) (lo.size-1))) (gi (loc n))≠0)
 (h4: ∀n∈L,gm (loc n) (gm (evL (valL (bl s) (bl lo)) (gi (loc n))) (gi (evL (trimL (slL (bl lo) (lo.size-1))) (gi (loc n)))))=E n):
 Calls Tryz.prog 207 #[.pointer (some ⟨g,0,none⟩),.string s,.string lo] w fun e w'=>(∃out,e= .returned out∧w'.ownsRow w.heap.size 212 1 out L.length (wsL L E 255))∧Below w.heap.size w w':=by
 obtain⟨R,hR⟩: ∃R:Ending→World→Prop,R=(fun e w'=>(∃out,e= .returned out∧w'.ownsRow w.heap.size 212 1 out L.length (wsL L E 255))∧Below w.heap.size w w'):=⟨_,rfl⟩;rw[←hR];have HR:=Lib.hid hR;have HL:=Lib.hid hL;have H1:=Lib.hid h1;have H3:=Lib.hid h3;have H4:=Lib.hid h4;have km:=PoA.mul_any s lo w (by omega) (by omega)
 have hml:(trimL (mulL (bl s) (bl lo))).length≤200:=by
  have:=trim_len (mulL (bl s) (bl lo));rw[mulL_len,bl_len,bl_len]at this;omega
 have ks:=fun V=>slope_any lo V (by omega);have ka:=fun x V=>at_any lo x V (by omega);obtain⟨sp,hsp⟩: ∃sp,trimL (slL (bl lo) (lo.size-1))=sp:=⟨_,rfl⟩
 have hspl:sp.length≤100:=by
  rw[←hsp];have:=trim_len (slL (bl lo) (lo.size-1));simp only[slL,List.length_map,List.length_range]at this;simp only[slL];omega
 rw[hsp]at ks H3 H4;have kb:=fun x V=>at_any (str sp) x V (by rw[str_size];omega);rw[bl_str]at kb;obtain⟨p,hp⟩: ∃p,trimL (mulL (bl s) (bl lo))=p:=⟨_,rfl⟩;rw[hp]at km hml;have kt:=fun V=>trim_any (str (p.take 64)) V (by rw[str_size,List.length_take];omega);rw[bl_str]at kt;have HV:=Lib.hid (show trimL (p.take 64)=valL (bl s) (bl lo) by unfold valL;rw[hp]);rw[←HV.out]at H4
 have hvl:(trimL (p.take 64)).length≤64:=by
  have:=trim_len (p.take 64);rw[List.length_take]at this;omega
 obtain⟨vl,hv⟩: ∃vl,trimL (p.take 64)=vl:=⟨_,rfl⟩;rw[hv]at kt H4 hvl;have kc:=fun x V=>at_any (str vl) x V (by rw[str_size];omega);rw[bl_str]at kc;have hps:(str p).size=p.length:=str_size p;have hpx:(str p).extract 0 (min p.length 64)=str (p.take 64):=bl_inj (by rw[ext_bl,bl_str,bl_str,List.drop_zero,Nat.sub_zero,List.take_eq_take_iff];omega);obtain⟨pt,hpt⟩: ∃pt,str (p.take 64)=pt:=⟨_,rfl⟩;rw[hpt]at kt hpx;obtain⟨pb,hpb⟩: ∃pb,str p=pb:=⟨_,rfl⟩;rw[hpb]at km hps hpx;rw[←hps]at hpx hml;have HP:=Lib.hid hpx;have hF0:=Lib.hid hF;have pz0:(0:Int)≤(pb.size:Int):=Int.natCast_nonneg _;have pz1:(pb.size:Int)≤200:=by omega
 clear hR hL hF h1 h3 h4 hsp hp hv hpt hpb hps hpx HV
 go_enter Tryz.func207,Tryz.ntmps207
 go_wp2_with fail
 refine Scp.wp_scope_one 0 (fun _ _=>False) (fun _ _=>0) rfl (fun _ _ h=>h.elim) (fun _=>?_)
 go_wp2_with fail
 (with_reducible refine(km).mono ?_);rintro e1 W1 ⟨rfl,hb1⟩
 clear km
 go_wp2_with fail
 rw[show(min (pb.size:Int) 64).toNat=min pb.size 64 by omega,HP.out]
 (with_reducible refine(kt _).mono ?_);rintro e2 W2 ⟨rfl,rfl⟩
 clear kt
 go_wp2_with fail
 (with_reducible refine(ks _).mono ?_);rintro e3 W3 ⟨rfl,hb3⟩
 clear ks HP;obtain⟨spb,hspb⟩: ∃spb,str sp=spb:=⟨_,rfl⟩;obtain⟨vlb,hvlb⟩: ∃vlb,str vl=vlb:=⟨_,rfl⟩;rw[hspb]at kb ⊢;rw[hvlb]at kc ⊢;have hF3:=(hF0.out.be hb1).be hb3;have hbw:=hb1.trans (hb3.mono hb1.size);have hg:=hF0.out.lt;clear hspb hvlb hb1 hb3 pz0 pz1 hml hs hlo hspl hvl
 go_wp2_with fail
 apply wp_label
 go_wp2_with fail
 go_loopw [9,26] (fun ov iv W=> ∃k:Nat,k≤255∧iv= .int .i64 k∧Fld W g∧W.ownsRow w.heap.size 212 1 ov (upTo L k).length (wsL L E k)∧Below w.heap.size w W) (fun _ iv _=>255-(intOf iv).toNat)
 case atStart=>exact⟨0,by omega,rfl,hF3,World.ownsRow_nil _ _ _ _,hbw⟩
 case round=>
  clear hF3 hbw;obtain⟨k,hk,rfl,hF,hown,hb⟩:=hrel;have k0:(0:Int)≤(k:Int):=Int.natCast_nonneg _;by_cases hkn:k<255
  ·have t0:decide ((k:Int)<255)=true:=decide_eq_true (by omega)
   have kx:=exp_any wr g (254-k) hF (by omega);rw[show((254-k:Nat):Int)=254-(k:Int) by omega,show ex (254-k)=loc k from rfl]at kx;have ki:=fun V (h:Fld V g)=>GfA.inv_any V g (loc k) h;have k1:(k:Int)<255:=by omega
   have A1:=Lib.hid (H1.out k hkn);have A3:=Lib.hid (H3.out k);have A4:=Lib.hid (H4.out k);obtain⟨x,hx⟩: ∃x,loc k=x:=⟨_,rfl⟩;rw[hx]at kx ki A1 A3 A4;clear hx
   go_wp2_with fail
   (with_reducible refine(kx).mono ?_);rintro e4 W4 ⟨rfl,rfl⟩
   clear kx
   go_wp2_with fail
   (with_reducible refine(ki _ hF).mono ?_);rintro e5 W5 ⟨rfl,hb5⟩
   have hF5:=hF.be hb5;have hown5:=own_below hown hb5;have hbw5:=hb.trans (hb5.mono hb.size);clear ki hF hown hb hb5;obtain⟨bk,hbk⟩: ∃bk,gi x=bk:=⟨_,rfl⟩;rw[hbk]at A1 A3 A4 ⊢;clear hbk;have ka1:=ka bk W5;rw[show ev (fa (bl lo)) (bl lo).length bk=evL (bl lo) bk from rfl]at ka1
   go_wp2_with fail
   (with_reducible refine(ka1).mono ?_);rintro e6 W6 ⟨rfl,hb6⟩
   clear ka1;have hF6:=hF5.be hb6;have hown6:=own_below hown5 hb6;have hbw6:=hbw5.trans (hb6.mono hbw5.size);clear hF5 hown5 hbw5 hb6;obtain⟨r1,hr1⟩: ∃r1,evL (bl lo) bk=r1:=⟨_,rfl⟩;rw[hr1]at A1 ⊢;clear hr1;by_cases hin:k∈L
   ·have t1:((r1.toNat:Int)==0)=true:=by rw[A1.out.1 hin];rfl
    have t1':((r1.toNat:Int)!=0)=false:=by rw[A1.out.1 hin];rfl
    have kb1:=kb bk W6;rw[show ev (fa sp) sp.length bk=evL sp bk from rfl]at kb1;have B3:=A3.out hin;have B4:=A4.out hin;obtain⟨d,hd⟩: ∃d,evL sp bk=d:=⟨_,rfl⟩;rw[hd]at kb1 B3 B4;have t2:((d.toNat:Int)==0)=false:=beq_eq_false_iff_ne.2 (fun e=>B3 (UInt8.toNat_inj.1 (by simpa using e)));have HB4:=Lib.hid B4;have HW:=Lib.hid (show wsL L E (k+1)=wsL L E k++[cpx (E k) k] by unfold wsL;rw[upTo_in hin,List.map_append];rfl);have HU:=Lib.hid (show(upTo L (k+1)).length=(upTo L k).length+1 by rw[upTo_in hin,List.length_append];rfl);clear B3 B4 hd
    go_wp2_with fail
    (with_reducible refine(kb1).mono ?_);rintro e7 W7 ⟨rfl,hb7⟩
    clear kb1;have hF7:=hF6.be hb7;have hown7:=own_below hown6 hb7;have hbw7:=hbw6.trans (hb7.mono hbw6.size);clear hF6 hown6 hbw6 hb7;have kc1:=kc bk W7;rw[show ev (fa vl) vl.length bk=evL vl bk from rfl]at kc1;obtain⟨v,hv⟩: ∃v,evL vl bk=v:=⟨_,rfl⟩;rw[hv]at kc1 HB4;clear hv
    go_wp2_with fail
    (with_reducible refine(kc1).mono ?_);rintro e8 W8 ⟨rfl,hb8⟩
    clear kc1;have hF8:=hF7.be hb8;have hown8:=own_below hown7 hb8;have hbw8:=hbw7.trans (hb8.mono hbw7.size);clear hF7 hown7 hbw7 hb8;have kj:=GfA.inv_any W8 g d hF8
    go_wp2_with fail
    (with_reducible refine(kj).mono ?_);rintro e9 W9 ⟨rfl,hb9⟩
    clear kj;have hF9:=hF8.be hb9;have hown9:=own_below hown8 hb9;have hbw9:=hbw8.trans (hb9.mono hbw8.size);clear hF8 hown8 hbw8 hb9;have km1:=GfA.mul_any W9 g v (gi d) hF9
    go_wp2_with fail
    (with_reducible refine(km1).mono ?_);rintro e10 W10 ⟨rfl,hb10⟩
    clear km1;have hF10:=hF9.be hb10;have hown10:=own_below hown9 hb10;have hbw10:=hbw9.trans (hb10.mono hbw9.size);clear hF9 hown9 hbw9 hb10;have km2:=GfA.mul_any W10 g x (gm v (gi d)) hF10;rw[HB4.out]at km2
    go_wp2_with fail
    (with_reducible refine(km2).mono ?_);rintro e11 W11 ⟨rfl,hb11⟩
    clear km2;have hF11:=hF10.be hb11;have hown11:=own_below hown10 hb11;have hbw11:=hbw10.trans (hb11.mono hbw10.size);clear hF10 hown10 hbw10 hb11;obtain⟨z,hz⟩: ∃z,E k=z:=⟨_,rfl⟩;rw[hz]at HW ⊢;have hbk9:=Blk.new W11 212 #[cpx z k];have hownA:=own_below hown11 ((Below.refl W11.heap.size W11).alloc (Nat.le_refl _) (.cells #[cpx z k] 212));have hszA:w.heap.size≤(W11.alloc (.cells #[cpx z k] 212)).heap.size:=by have:=hbw11.size;simp;omega
    have hbA:=hbw11.alloc hbw11.size (.cells #[cpx z k] 212);have hFA:Fld (W11.alloc (.cells #[cpx z k] 212)) g:=Fm.alloc hF11 _;have hul:=upTo_le L k;clear hF11 hown11 hbw11 hz HB4 A1 A3 A4
    go_wp2_with (at_builtin;refine wpList_app rfl _ _ rfl elemC rfl hownA rfl rfl (blk_news hbk9) (by simp[Value.oneCell',cpx]) (by omega) (by unfold maxLen;omega) hszA ?_)
    intro v9 w8 hownB hb8;have hFB:=Fm.same hFA (hb8.block g hg);have hb3:=hbA.trans hb8;clear hownA hbk9 hbA hb8 hFA
    go_wp2_with fail
    go_roundw
    case rel=>exact⟨k+1,by omega,by go_num,hFB,by rw[HW.out,HU.out];exact hownB,hb3⟩
    case measure=>simp[intOf];omega
   ·have t1:((r1.toNat:Int)==0)=false:=beq_eq_false_iff_ne.2 (fun e=>hin (A1.out.2 (UInt8.toNat_inj.1 (by simpa using e))))
    have t1':((r1.toNat:Int)!=0)=true:=by rw[bne,t1];rfl
    have HW:=Lib.hid (show wsL L E (k+1)=wsL L E k by unfold wsL;rw[upTo_out hin]);have HU:=Lib.hid (show(upTo L (k+1)).length=(upTo L k).length by rw[upTo_out hin]);clear A1 A3 A4
    go_wp2_with fail
    go_roundw
    case rel=>exact⟨k+1,by omega,by go_num,hF6,by rw[HW.out,HU.out];exact hown6,hbw6⟩
    case measure=>simp[intOf];omega
  ·obtain rfl:k=255:=by omega
   have t0:decide (((255:Nat):Int)<255)=false:=by decide
   have HU:=Lib.hid (upTo_len HL.out)
   go_wp2_with fail
   rw[HR.out];rw[HU.out]at hown;exact⟨⟨_,rfl,hown⟩,hb⟩
end Go.Proofs.YtdbpkhnmhddmmaaGreatDoor.MdC
namespace Go.Proofs.YtdbpkhnmhddmmaaGreatDoor.MdP
open Go Go.RowKit St GfP PoP RsP PoA PoB RsB MdA MdB MdC
theorem evL_trim (p:List UInt8) (x:UInt8):evL (trimL p) x=evL p x:=by
 unfold evL;rw[show fa (trimL p)=fa p from funext (fa_trim p)];exact(ev_more x (trim_len p) (fun i h _=>by rw[←fa_trim];exact fa_out h)).symm
theorem fa_map (k:Nat) (f:Nat→UInt8) (i:Nat) (h:i<k):fa ((List.range k).map f) i=f i:=fa_in (by simp[h])
theorem evL_map (k:Nat) (f:Nat→UInt8) (x:UInt8):evL ((List.range k).map f) x=ev f k x:=by
 unfold evL;rw[List.length_map,List.length_range];exact ev_congr x (fun i hi=>fa_map k f i hi)
theorem evL_loc (L:List Nat) (x:UInt8):evL (locL L) x=ev (lam (L.map loc)) (L.length+1) x:=by
 obtain⟨h1,h2⟩:=loc_is L;unfold evL;rw[h2];exact ev_congr x (fun i _=>h1 i)
theorem cv_congr {f g f' g':Nat→UInt8} {m:Nat} (hf: ∀i,i≤m→f i=f' i) (hg: ∀i,i≤m→g i=g' i):cv f g m=cv f' g' m:=by
 unfold cv;exact sm_congr (fun i hi=>by rw[hf i (by omega),hg (m-i) (by omega)])
theorem evL_val (s lo:List UInt8) (x:UInt8):evL (valL s lo) x=ev (cv (fa s) (fa lo)) 64 x:=by
 unfold valL;rw[evL_trim];unfold evL;have h1:((trimL (mulL s lo)).take 64).length≤64:=by rw[List.length_take];omega
 rw[←ev_more x h1 (fun i h _=>fa_out h)];refine ev_congr x (fun i hi=>?_);rw[←fa_mulL,←fa_trim (mulL s lo)];unfold fa;rw[List.getD_eq_getElem?_getD,List.getD_eq_getElem?_getD,List.getElem?_take_of_lt hi]
structure Near (L:List Nat) (r c:List UInt8):Prop where
 lost:Lost L
 len:r.length=255
 len':c.length=255
 word: ∀j,j<64→hr c (ex j)=0
 same: ∀n,n<255→n∉L→fa r n=fa c n
def wrg (r c:List UInt8) (n:Nat):UInt8:=fa r n^^^fa c n
variable {L:List Nat} {r c:List UInt8}
theorem Near.inj (h:Near L r c): ∀a∈L,∀b∈L,loc a=loc b→a=b:=fun a ha b hb e=>loc_inj (h.lost.lt a ha) (h.lost.lt b hb) e
theorem Near.syn (h:Near L r c) (j:Nat) (hj:j<64):fa (synL r) j=PoP.syn L loc (wrg r c) j:=by
 rw[synL,fa_map 64 _ j hj];exact syn_of h.len h.len' h.lost.nd h.lost.lt h.word h.same j hj
theorem Near.zero (h:Near L r c) (hz:isW r=true):r=c:=by
 have h0:=(isW_iff r).1 hz
 have hs: ∀j,j<64→PoP.syn L loc (wrg r c) j=0:=fun j hj=>by
  rw[←h.syn j hj,synL,fa_map 64 _ j hj];exact h0 j hj
 have hn:=none_wrong (e:=wrg r c) h.inj h.lost.nd h.lost.le (fun a _=>loc_ne a) hs;refine List.ext_getElem (by rw[h.len,h.len']) (fun n h1 h2=>?_);have hfr:fa r n=r[n]:=fa_in (List.getElem?_eq_getElem h1);have hfc:fa c n=c[n]:=fa_in (List.getElem?_eq_getElem h2);rw[←hfr,←hfc];by_cases hm:n∈L
 ·exact x_zero (hn n hm)
 ·exact h.same n (by rw[←h.len];exact h1) hm
theorem Near.gap (h:Near L r c) (m:Nat) (h1:L.length≤m) (h2:m<64):cv (lam (L.map loc)) (fa (synL r)) m=0:=by
 rw[cv_congr (f':=lam (L.map loc)) (g':=PoP.syn L loc (wrg r c)) (fun _ _=>rfl) (fun i hi=>h.syn i (by omega))];exact no_gap h1
theorem Near.root (h:Near L r c) (n:Nat) (hn:n<255):n∈L↔evL (locL L) (gi (loc n))=0:=by
 rw[evL_loc];constructor
 ·intro hm
  exact root_in hm (loc_ne n)
 ·intro h0
  by_cases hm:n∈L
  ·exact hm
  ·exact absurd h0 (root_out (fun a ha e=>hm (loc_inj (h.lost.lt a ha) hn e▸ha)) (loc_ne n))
theorem evL_slope (L:List Nat) (x:UInt8):evL (trimL (slL (locL L) L.length)) x=ev (sl (lam (L.map loc))) L.length x:=by
 rw[evL_trim,slL,evL_map,show fa (locL L)=lam (L.map loc)from funext (loc_is L).1]
theorem Near.slope (h:Near L r c) (n:Nat) (hm:n∈L):evL (trimL (slL (locL L) L.length)) (gi (loc n))≠0:=by
 rw[evL_slope];exact slope_ne h.inj h.lost.nd hm (loc_ne n)
theorem Near.wrong (h:Near L r c) (n:Nat) (hm:n∈L):
 gm (loc n) (gm (evL (valL (synL r) (locL L)) (gi (loc n))) (gi (evL (trimL (slL (locL L) L.length)) (gi (loc n)))))=wrg r c n:=by
 rw[evL_slope,evL_val,ev_congr (g:=cv (lam (L.map loc)) (PoP.syn L loc (wrg r c))) _ (fun m hm=>by
  rw[cv_comm,show fa (locL L)=lam (L.map loc)from funext (loc_is L).1];exact cv_congr (fun _ _=>rfl) (fun i hi=>h.syn i (by omega)))]
 exact wrong_at h.inj h.lost.nd h.lost.le hm (loc_ne n)
theorem Near.mend (_h:Near L r c) (n:Nat):fa r n^^^wrg r c n=fa c n:=xxa _ _
theorem Near.out (h:Near L r c):(List.range 255).map (fun j=>if j∈upTo L 255 then fa c j else fa r j)=c:=by
 refine List.ext_getElem (by simp[h.len']) (fun n h1 h2=>?_);have hn:n<255:=by simpa using h1
 rw[List.getElem_map,List.getElem_range];have hfc:fa c n=c[n]:=fa_in (List.getElem?_eq_getElem h2);rw[←hfc]
 split
 ·rfl
 ·rename_i hm
  exact h.same n hn (fun hl=>hm ((upTo_mem L 255 n).2 ⟨hn,hl⟩))
end Go.Proofs.YtdbpkhnmhddmmaaGreatDoor.MdP
namespace Go.Proofs.YtdbpkhnmhddmmaaGreatDoor.MdD
open Go Go.RowKit Q Mem Rg Ap ApC St BiW BiG Ints CrB SeEq Fl TbM GfP PoP RsP GfA PoA PoB RsB MdA MdB MdC MdP
set_option maxRecDepth 100000
theorem byteVal_fl (n:Nat) (h:n<256):floatToIntVal .f64 (fl n) .u8=some (n:Int):=by
 unfold floatToIntVal;rw[show(FloatKind.f64.decode (fl n)).toInt .zero=some (n:Int)from toInt_fl n (by omega)];dsimp only;rw[if_pos];refine⟨?_,?_⟩
 ·show(0:Int)≤_
  omega
 ·show _≤(255:Int)
  omega
theorem conv_byte (n:Nat) (h:n<256) (V:World):(convert 216 5 (.float .f64 (fl n))).run Tryz.prog V= .ok (.int .u8 (n:Int)) V:=
 run_convert_float_int V _ _ .f64 .u8 (fl n) n (by kernel_rfl) Tryz.underlying5 (byteVal_fl n h)
theorem conv_int (n:Nat) (h:n<256) (V:World):(convert 216 3 (.float .f64 (fl n))).run Tryz.prog V= .ok (.int .i64 (n:Int)) V:=
 run_cint V _ _ n (by kernel_rfl) Tryz.underlying3 (by omega)
structure Arr (w:World) (g n:Nat) (F:Nat→UInt8):Prop where
 lt:g<w.heap.size
 c: ∀j,j<n→w.cell? ⟨g,j,none⟩=some (.int .u8 ((F j).toNat:Int))
 f: ∀j,j<n→w.frozen? ⟨g,j,none⟩=false
theorem Arr.below {w w':World} {g n:Nat} {F:Nat→UInt8} (h:Arr w g n F) (hb:Below w.heap.size w w'):Arr w' g n F:=
 ⟨Nat.lt_of_lt_of_le h.lt hb.size,fun j hj=>(hb.cell (p:=⟨g,j,none⟩) h.lt).trans (h.c j hj),fun j hj=>(World.frozen?_of_block (w:=w) (hb.block g h.lt)).trans (h.f j hj)⟩
theorem Arr.put {w:World} {g n:Nat} {F F':Nat→UInt8} (h:Arr w g n F) (m:Nat) (x:UInt8) (hm:m<n) (he: ∀j,j<n→F' j=if j=m then x else F j):Arr (w.setCell ⟨g,m,none⟩ (.int .u8 (x.toNat:Int))) g n F':=by
 refine⟨by simpa [World.setCell]using h.lt,fun j hj=>?_,fun j hj=>by rw[World.frozen?_setCell];exact h.f j hj⟩;rw[he j hj];by_cases e:j=m
 ·subst e
  rw[if_pos rfl,World.cell?_setCell_same' _ _ _ (by rw[h.c j hj];rfl)]
 ·rw[if_neg e,World.cell?_setCell_other _ _ _ _ (fun h:(⟨g,m,none⟩:Addr)=⟨g,j,none⟩=>e (congrArg Addr.off h).symm)]
  exact h.c j hj
theorem arr_new (s:ByteArray) (w:World) (e:TypeId) (cap:Nat) (hcap:s.size≤cap):Arr (w.drew.alloc (.cells (bytesRow s cap) e ((bytesRow s cap).size,(bytesRow s cap).size+1))) w.heap.size s.size (fa (bl s)):=by
 obtain⟨g,cp,e1,h1,h2,h3,h4,h5,h6⟩:=cells_conv s w e cap hcap;simp only[Value.slice.injEq,Option.some.injEq,Addr.mk.injEq,and_true,true_and]at e1;obtain⟨e1,rfl⟩:=e1;subst e1;refine⟨h2,fun j hj=>?_,fun j hj=>(h5 j (by omega)).2⟩;obtain⟨b,hb⟩: ∃b,(bl s)[j]? =some b:=⟨_,List.getElem?_eq_getElem (by rw[bl_len];exact hj)⟩;rw[fa_in hb];exact h6 j _ (by simp[u8s,u8v,hb])
theorem Arr.str {w:World} {g n:Nat} {F:Nat→UInt8} (h:Arr w g n F) (cap:Nat):(convert 147 9 (.slice (some ⟨g,0,none⟩) n cap)).run Tryz.prog w= .ok (.string (St.str ((List.range n).map F))) w:=by
 have:=run_convert_bytes_arg (P:=Tryz.prog) w 147 5 Tryz.underlying147 Tryz.underlying5 g 0 n cap ((List.range n).map fun i=>((F i).toNat:Int)) (by simp) (fun i hi=>by
  rw[Nat.zero_add,h.c i hi];simp[hi]) 9 Tryz.underlying9
 rw[this,nums_str]
 congr 3
 simp
theorem Arr.ext {w:World} {g n:Nat} {F:Nat→UInt8} (h:Arr w g n F) (p:Ext):Arr (Q.ext w p) g n F:=h.below (below_ext w p)
def mdF (L:List Nat) (r c:List UInt8) (k j:Nat):UInt8:=if j∈(upTo L 255).take k then fa c j else fa r j
theorem mdF_zero (L:List Nat) (r c:List UInt8) (j:Nat):mdF L r c 0 j=fa r j:=by unfold mdF;simp
theorem mdF_here {L:List Nat} {r c:List UInt8} {k m:Nat} (h:(upTo L 255)[k]? =some m):mdF L r c k m=fa r m:=by
 unfold mdF;rw[if_neg];intro hm;have:=not_seen (upTo_nodup L 255) h;simp[hm]at this
theorem mdF_step {L:List Nat} {r c:List UInt8} {k m:Nat} (h:(upTo L 255)[k]? =some m) (j:Nat):mdF L r c (k+1) j=if j=m then fa c m else mdF L r c k j:=by
 unfold mdF;rw[List.take_add_one,h,Option.toList_some];by_cases e:j=m
 ·rw[if_pos e,e,if_pos (by simp)]
 ·rw[if_neg e]
  congr 1
  simp[e]
theorem mdF_end {L:List Nat} {r c:List UInt8} (h:Near L r c):(List.range 255).map (mdF L r c (upTo L 255).length)=c:=by
 have:=h.out;unfold mdF;rw[List.take_length];exact this
theorem row_cells {W:World} {B n oc:Nat} {oa:Option Addr} {L:List Nat} {E:Nat→UInt8} (h:W.ownsRow B 212 1 (.slice oa n oc) n (wsL L E 255)) (k m:Nat) (hm:(upTo L 255)[k]? =some m):
 ∃gr,oa=some ⟨gr,0,none⟩∧gr<W.heap.size∧W.cell? ⟨gr,k,none⟩=some (.complex .f64 (fl (E m).toNat) (fl m)):=by
 have hw:(wsL L E 255)[k]? =some (cpx (E m) m):=by unfold wsL;rw[List.getElem?_map,hm];rfl
 have hk:=(List.getElem?_eq_some_iff.1 hw).1;rw[h.1,Nat.mul_one]at hk;rcases h.2 with⟨_,h0⟩|⟨g,cap,cur,e,_,hg,_⟩
 ·omega
 ·simp only[Value.slice.injEq,true_and]at e
  obtain⟨rfl,rfl⟩:=e;refine⟨g,rfl,(Array.getElem?_eq_some_iff.1 hg).1,?_⟩;rw[h.cellAt k (by omega),hw,cpx,ofInt_fl,ofInt_fl]
set_option maxHeartbeats 3200000 in
theorem mended_any (w:World) (r:ByteArray) (a:Option Addr) (c n:Nat) (L:List Nat) (cw:List UInt8) (h:Near L (bl r) cw) (hn:L.length=n) (hI:Ints w a (zI L)):
 Calls Tryz.prog 193 #[.string r,.slice a n c] w fun e w'=>e= .returned (.tuple #[.string (str cw),.bool true])∧Below w.heap.size w w':=by
 have hrs:r.size=255:=by rw[←bl_len];exact h.len
 have ks:=synd_any r w hrs;have kt:=fun V=>trim_any (str (synL (bl r))) V (by rw[str_size];simp[synL]);rw[bl_str]at kt
 have hE:(str (trimL (synL (bl r)))).toList.isEmpty=isW (bl r):=by
  rw[isEmpty_iff,str_size];unfold isW
  cases trimL (synL (bl r))<;>simp
 have HH:=Lib.hid h;have hss:(str (synL (bl r))).size=64:=by rw[str_size];simp[synL]
 have HN:=Lib.hid hn;have HI:=Lib.hid hI;obtain⟨z,hz⟩: ∃z,str (trimL (synL (bl r)))=z:=⟨_,rfl⟩;rw[hz]at kt hE;clear hz
 cases hw:isW (bl r)with
 |true=>
  have he:=h.zero hw;rw[hw]at hE;rw[←he,str_bl];clear h HH HI hn hI hw he hss;obtain⟨q,hq⟩: ∃q,str (synL (bl r))=q:=⟨_,rfl⟩;rw[hq]at ks kt;clear hq
  go_enter Tryz.func193,Tryz.ntmps193
  go_wp2_with fail
  (with_reducible refine(ks).mono ?_);rintro e1 W1 ⟨rfl,hb1⟩
  clear ks
  go_wp2_with fail
  (with_reducible refine(kt _).mono ?_);rintro e2 W2 ⟨rfl,rfl⟩
  clear kt
  go_wp2_with fail
  go_ret2
  exact⟨rfl,hb1⟩
 |false=>
  rw[hw]at hE;have HS:=Lib.hid (show bl (str (synL (bl r)))=synL (bl r)from bl_str _);obtain⟨q,hq⟩: ∃q,str (synL (bl r))=q:=⟨_,rfl⟩;rw[hq]at ks kt hss HS;have kl:=fun V (hb:Below w.heap.size w V)=>loc_any V a c n L HH.out.lost HN.out (HI.out.below (Nat.le_refl _) hb);have kf:=fun V g (hF:Fld V g)=>locator_any V g q L HH.out.lost.le hF hss (by rw[HS.out];exact HH.out.gap);have hlb:bl (str (locL L))=locL L:=bl_str _;have hls:(str (locL L)).size=n+1:=by rw[str_size,(loc_is L).2,hn]
  have kw:=fun V g (hF:Fld V g)=>wrongs_in V g q (str (locL L)) L (wrg (bl r) cw) HH.out.lost hF hss (by have:=HH.out.lost.le;omega)
   (by rw[hlb];exact HH.out.root)
   (by rw[hlb,hls,Nat.add_sub_cancel,←hn];exact HH.out.slope)
   (by rw[hlb,hls,Nat.add_sub_cancel,←hn,HS.out];exact HH.out.wrong)
  have kd:=fun V=>degree_any (str (locL L)) V (by have:=HH.out.lost.le;omega);rw[hlb,loc_trim,(loc_is L).2,hn,show((n+1:Nat):Int)-1=(n:Int) by omega]at kd;rw[hn]at kf kw;obtain⟨lo,hlo⟩: ∃lo,str (locL L)=lo:=⟨_,rfl⟩;rw[hlo]at kl kf kw kd;have hn64:n≤64:=by rw[←hn];exact h.lost.le
  have hcv: ∀V:World,∃c,r.size≤c∧(convert 9 147 (.string r)).run Tryz.prog V= .ok (.slice (some ⟨V.heap.size,0,none⟩) r.size c) (V.drew.alloc (.cells (bytesRow r c) 5 ((bytesRow r c).size,(bytesRow r c).size+1))):=fun V=>
   ⟨grownCap V r.size 0 5,grownCap_ge V r.size 0 5,run_bytes_of_string V _ _ _ r Tryz.underlying9 Tryz.underlying147 Tryz.underlying5⟩
  clear h hn hI hw hq hlb hls hlo hss
  go_enter Tryz.func193,Tryz.ntmps193
  go_wp2_with fail
  (with_reducible refine(ks).mono ?_);rintro e1 W1 ⟨rfl,hb1⟩
  clear ks
  go_wp2_with fail
  (with_reducible refine(kt _).mono ?_);rintro e2 W2 ⟨rfl,rfl⟩
  clear kt;have kn:=GfA.new_any W1
  go_wp2_with fail
  (with_reducible refine(kn).mono ?_);rintro e3 W3 ⟨rfl,hF3,hb3⟩
  have hbw3:=hb1.trans (hb3.mono hb1.size);obtain⟨g,hg⟩: ∃g,W1.heap.size=g:=⟨_,rfl⟩;rw[hg]at hF3 hb3 ⊢;clear kn hb3 hb1;have kl3:=kl W3 hbw3
  go_wp2_with fail
  (with_reducible refine(kl3).mono ?_);rintro e4 W4 ⟨rfl,hb4⟩
  have hF4:=hF3.be hb4;have hbw4:=hbw3.trans (hb4.mono hbw3.size);clear kl kl3 hF3 hb4 hbw3;have kf4:=kf W4 g hF4
  go_wp2_with fail
  (with_reducible refine(kf4).mono ?_);rintro e5 W5 ⟨rfl,hb5⟩
  have hF5:=hF4.be hb5;have hbw5:=hbw4.trans (hb5.mono hbw4.size);clear kf kf4 hF4 hb5 hbw4;have kw5:=kw W5 g hF5
  go_wp2_with fail
  (with_reducible refine(kw5).mono ?_);rintro e6 W6 ⟨⟨out,rfl,hown⟩,hb6⟩
  have hbw6:=hbw5.trans (hb6.mono hbw5.size);clear kw kw5 hF5 hb6 hbw5;obtain⟨oa,oc,rfl⟩:=own_form hown;have kd6:=kd W6
  go_wp2_with fail
  (with_reducible refine(kd6).mono ?_);rintro e7 W7 ⟨rfl,rfl⟩
  clear kd kd6;obtain⟨cp,hcp,hcv6⟩:=hcv W6;have hA:=arr_new r W6 5 cp hcp;have HC:=Lib.hid (row_cells hown);have hb0:=hbw6.size;have hul:(upTo L 255).length=n:=by rw[upTo_len HH.out.lost];exact HN.out
  have HU:=Lib.hid hul;have n0:(0:Int)≤(n:Int):=Int.natCast_nonneg _;obtain⟨gb,hgb⟩: ∃gb,W6.heap.size=gb:=⟨_,rfl⟩;rw[hgb]at hcv6 hA;have hbA:Below gb W6 (W6.drew.alloc (.cells (bytesRow r cp) 5 ((bytesRow r cp).size,(bytesRow r cp).size+1))):=(Below.refl gb W6).drew.alloc (show gb≤W6.heap.size by omega) _;rw[hrs]at hA;clear hcv hown hul hcp hE
  go_wp2_with fail
  go_loopw [57] (fun iv W=> ∃k:Nat,k≤n∧iv= .int .i64 k∧Arr W gb 255 (mdF L (bl r) cw k)∧Below gb W6 W) (fun iv _=>n-(intOf iv).toNat)
  case atStart=>exact⟨0,by omega,rfl,by rw[show mdF L (bl r) cw 0=fa (bl r)from funext (mdF_zero L (bl r) cw)];exact hA,hbA⟩
  case round=>
   clear hA hbA hcv6;obtain⟨k,hk,rfl,hA,hb⟩:=hrel;have k0:(0:Int)≤(k:Int):=Int.natCast_nonneg _;by_cases hkn:k<n
   ·have t0:decide ((k:Int)<(n:Int))=true:=decide_eq_true (by omega)
    have t0':decide (k<n)=true:=decide_eq_true hkn;have k1:(k:Int)<(n:Int):=by omega
    obtain⟨m,hm⟩: ∃m,(upTo L 255)[k]? =some m:=⟨_,List.getElem?_eq_getElem (by rw[HU.out];exact hkn)⟩;obtain⟨gr,rfl,hgr,hc⟩:=HC.out k m hm;have c0:=(World.cell?_of_block (a:=⟨gr,k,none⟩) (hb.block gr (by omega))).trans hc;have hm255:=((upTo_mem L 255 m).1 (List.mem_of_getElem? hm)).1;have c1:=hA.c m hm255;have c2:=hA.f m hm255;rw[mdF_here hm]at c1;have v1:=conv_int m (by omega);have v2:=conv_byte (wrg (bl r) cw m).toNat (UInt8.toNat_lt _);have qx:=xor_g (fa (bl r) m) (wrg (bl r) cw m);rw[HH.out.mend m]at qx;have HA:=Lib.hid (And.intro (hA.put m (fa cw m) hm255 (fun j _=>mdF_step hm j)) (hb.setCell (p:=⟨gb,m,none⟩) (by show gb≤gb;omega) (.int .u8 ((fa cw m).toNat:Int))));obtain⟨x1,hx1⟩: ∃x1,fa (bl r) m=x1:=⟨_,rfl⟩;obtain⟨x2,hx2⟩: ∃x2,wrg (bl r) cw m=x2:=⟨_,rfl⟩;obtain⟨x3,hx3⟩: ∃x3,fa cw m=x3:=⟨_,rfl⟩;obtain⟨f1,hf1⟩: ∃f1,fl m=f1:=⟨_,rfl⟩;rw[hx1]at c1 qx;rw[hx2]at v2 qx c0;rw[hx3]at qx HA;rw[hf1]at c0 v1;obtain⟨f2,hf2⟩: ∃f2,fl x2.toNat=f2:=⟨_,rfl⟩;rw[hf2]at c0 v2;have m0:(0:Int)≤(m:Int):=Int.natCast_nonneg _;have m1:(m:Int)<255:=by omega
    have hrs':(r.size:Int)=255:=by omega
    clear hm hc hA hb hx1 hx2 hx3 hf1 hf2 HC
    go_wp2_with fail
    go_roundw
    case rel=>exact⟨k+1,by omega,by go_num,HA.out.1,HA.out.2⟩
    case measure=>simp[intOf];omega
   ·obtain rfl:k=n:=by omega
    have t0:decide ((k:Int)<(k:Int))=false:=decide_eq_false (by omega);have t0':decide (k<k)=false:=decide_eq_false (by omega);have hs1:=fun p=>(hA.ext p).str cp;rw[show(List.range 255).map (mdF L (bl r) cw k)=cw by rw[←HU.out];exact mdF_end HH.out]at hs1;have hcs:(str cw).size=255:=by rw[str_size];exact HH.out.len'
    have ki:=fun V=>is_any (str cw) V hcs;rw[show isW (bl (str cw))=true by rw[bl_str];exact(isW_iff cw).2 HH.out.word]at ki;have hbw:=hbw6.trans (hb.mono (by omega));obtain⟨cs,hcw⟩: ∃cs,str cw=cs:=⟨_,rfl⟩;rw[hcw]at hs1 ki;have HCW:=Lib.hid hcw;clear hA hb hcw hcs
    go_wp2_with fail
    refine Go.Proofs.YtdbpkhnmhddmmaaGreatDoor.Rg.region_new [(4,val (.bool true))] 5 (by kernel_rfl) (by kernel_rfl) (by kernel_rfl) (lk_cons val_inh lk_nil) (lk_cons val_mono lk_nil) ?_;intro σ hσ;simp only[List.take_succ_cons,List.take_zero,List.drop_succ_cons,List.drop_zero];have hs4:σ 4= .bool true:=hσ 4 _ rfl;refine Go.Proofs.YtdbpkhnmhddmmaaGreatDoor.Rg.wpN_take 4 (by kernel_rfl) (by kernel_rfl) (by kernel_rfl) ?_;simp only[List.take_succ_cons,List.take_zero,List.drop_succ_cons,List.drop_zero]
    repeat (go_big_quiet_step (fail))
    refine wpQuiet_nil ?_;refine wpN_sp _ rfl (by kernel_rfl) (spAt_val (f:=209) (args:= #[.string cs]) (by intro w0;go_simp) (fun p _=>ki _)) ?_;simp only[Act.put,List.setIfInBounds_toArray,List.set_cons_zero,List.set_cons_succ];rw[hs4];refine wpN_nil ?_;rintro w9 ⟨pq,rfl⟩ _
    go_wp2_with fail
    go_ret2
    exact⟨by rw[HCW.out];rfl,hbw.trans ((below_ext wr pq).mono hbw.size)⟩
end Go.Proofs.YtdbpkhnmhddmmaaGreatDoor.MdD
namespace Go.Proofs.YtdbpkhnmhddmmaaGreatDoor.MdE
open Go Go.RowKit Q Mem Rg Ap St BiW BiG Ints CrB TbM GfP PoP RsP GfA PoA PoB RsB MdA MdB MdC MdP MdD
set_option maxRecDepth 100000
theorem index_in (w:World) (a:Option Addr) (c n x:Nat) (L:List Nat) (hn:L.length=n) (hI:Ints w a (zI L)) (hx:x∈L) (hn64:n≤64) (hL: ∀m∈L,m<255):
 Calls Tryz.prog 118 #[.slice a n c,.int .i64 (x:Int)] w fun e w'=>(∃k:Nat,e= .returned (.int .i64 k)∧k≤64)∧w=w':=by
 obtain⟨q,hq⟩:=List.mem_iff_getElem?.1 hx;have HQ:=Lib.hid hq;have HN:=Lib.hid hn;have HI:=Lib.hid hI;have HL:=Lib.hid hL;have hx255:=hL x hx;have hqn:q<n:=by rw[←hn];exact(List.getElem?_eq_some_iff.1 hq).1
 have n0:(0:Int)≤(n:Int):=Int.natCast_nonneg _;clear hn hI hx hL hq
 go_enter Tryz.func118,Tryz.ntmps118
 go_wp2_with fail
 go_loop [8] (fun iv=> ∃k:Nat,k≤q∧iv= .int .i64 k) (fun iv=>n-(intOf iv).toNat)
 case atStart=>exact⟨0,by omega,rfl⟩
 case round=>
  obtain⟨k,hk,rfl⟩:=hrel;have k0:(0:Int)≤(k:Int):=Int.natCast_nonneg _;have t0:decide ((k:Int)<(n:Int))=true:=decide_eq_true (by omega);have t0':decide (k<n)=true:=decide_eq_true (by omega);obtain⟨m,hm⟩: ∃m,L[k]? =some m:=⟨_,List.getElem?_eq_getElem (by rw[HN.out];omega)⟩;obtain⟨b,o,rfl,hlt,hc⟩:=HI.out k _ (zI_at hm);have k1:(k:Int)<(n:Int):=by omega
  have hm255:=HL.out m (List.mem_of_getElem? hm);have HKQ:=Lib.hid (show k=q→m=x from fun e=>by subst e;exact Option.some.inj (hm.symm.trans HQ.out));by_cases e:m=x
  ·have t1:((x:Int)==(m:Int))=true:=by rw[e];simp
   clear hm e
   go_wp2_with fail
   go_ret;exact⟨⟨k,rfl,by omega⟩,rfl⟩
  ·have t1:((x:Int)==(m:Int))=false:=beq_eq_false_iff_ne.2 (by omega)
   have hkq:k≠q:=fun h=>e (HKQ.out h);clear hm e HKQ
   go_wp2_with fail
   go_round
   case rel=>exact⟨k+1,by omega,by go_num⟩
   case measure=>simp[intOf];omega
theorem contains_in (w:World) (a:Option Addr) (c n x:Nat) (L:List Nat) (hn:L.length=n) (hI:Ints w a (zI L)) (hx:x∈L) (hn64:n≤64) (hL: ∀m∈L,m<255):
 Calls Tryz.prog 74 #[.slice a n c,.int .i64 (x:Int)] w fun e w'=>e= .returned (.bool true)∧w=w':=by
 have ki:=index_in w a c n x L hn hI hx hn64 hL;clear hn hI hx hL
 go_enter Tryz.func74,Tryz.ntmps74
 go_wp2_with fail
 (with_reducible refine(ki).mono ?_);rintro e1 W1 ⟨⟨k,rfl,hk⟩,rfl⟩
 have t0:decide ((0:Int)≤(k:Int))=true:=decide_eq_true (Int.natCast_nonneg _);clear ki
 go_wp2_with fail
 go_ret;exact⟨rfl,rfl⟩
theorem elemI:Elem Tryz.prog 70 3 1 8:=elem_of Tryz.underlying70 (z:= .int .i64 0) (by kernel_rfl) rfl (by decide)
set_option maxHeartbeats 3200000 in
theorem word_any (w:World) (r:ByteArray) (a:Option Addr) (c n:Nat) (L:List Nat) (cw:List UInt8) (h:Near L (bl r) cw) (hn:L.length=n) (hI:Ints w a (zI L)):
 Calls Tryz.prog 173 #[.string r,.slice a n c] w fun e w'=>(∃v,e= .returned (.tuple #[.string (str cw),v,.int .i64 0]))∧Below w.heap.size w w':=by
 have hrs:r.size=255:=by rw[←bl_len];exact h.len
 have hrs':(r.size:Int)=255:=by omega
 have HR:=Lib.hid hrs;have kp:=places_any w a c n L h.lost hn hI;have hn64:n≤64:=by rw[←hn];exact h.lost.le
 have kr:=fun V=>room_any V n hn64;have km:=fun V (hb:Below w.heap.size w V)=>mended_any V r a c n L cw h hn (hI.below (Nat.le_refl _) hb);have kc:=fun V (hb:Below w.heap.size w V) x hx=>contains_in V a c n x L hn (hI.below (Nat.le_refl _) hb) hx hn64 h.lost.lt;have HH:=Lib.hid h;have t0:((r.size:Int)==255)=true:=by rw[hrs];rfl
 have t0':((r.size:Int)!=255)=false:=by rw[hrs];rfl
 have hcs:(str cw).size=255:=by rw[str_size];exact h.len'
 have HB:=Lib.hid (show bl (str cw)=cw from bl_str cw);have hrm:(((64-n)/2:Nat):Int)≥0:=Int.natCast_nonneg _;have hrm2:(((64-n)/2:Nat):Int)≤64:=by omega
 obtain⟨rm,hrm3⟩: ∃rm:Nat,(64-n)/2=rm:=⟨_,rfl⟩;rw[hrm3]at kr hrm hrm2;have t1:decide ((rm:Int)<0)=false:=decide_eq_false (by omega);obtain⟨cs,hcw⟩: ∃cs,str cw=cs:=⟨_,rfl⟩;rw[hcw]at km hcs HB ⊢;have HC:=Lib.hid hcs;have hcs':(cs.size:Int)=255:=by omega
 clear h hn hI hrs hcs hrm3 hcw
 go_enter Tryz.func173,Tryz.ntmps173
 go_wp2_with fail
 (with_reducible refine(kp).mono ?_);rintro e1 W1 ⟨rfl,hb1⟩
 clear kp
 go_wp2_with fail
 (with_reducible refine(kr _).mono ?_);rintro e2 W2 ⟨rfl,rfl⟩
 have km1:=km _ hb1;clear km
 go_wp2_with fail
 (with_reducible refine(km1).mono ?_);rintro e3 W3 ⟨rfl,hb3⟩
 have hb:=hb1.trans (hb3.mono hb1.size);clear km1 hb1 hb3
 go_wp2_with fail
 go_loopw [9,10,34] (fun av ov iv W=> ∃k m:Nat,∃xs:List Value,k≤255∧m≤k∧iv= .int .i64 k∧ov= .int .i64 0∧W.ownsRow w.heap.size 3 1 av m xs∧Below w.heap.size w W) (fun _ _ iv _=>255-(intOf iv).toNat)
 case atStart=>exact⟨0,0,[],by omega,by omega,rfl,rfl,World.ownsRow_nil _ _ _ _,hb⟩
 case round=>
  clear hb;obtain⟨k,m,xs,hk,hmk,rfl,rfl,hown,hb⟩:=hrel;have k0:(0:Int)≤(k:Int):=Int.natCast_nonneg _;by_cases hkn:k<255
  ·have t2:decide ((k:Int)<255)=true:=decide_eq_true (by omega)
   have k1:(k:Int)<255:=by omega
   obtain⟨x,hx⟩: ∃x,(bl cs)[k]? =some x:=⟨_,List.getElem?_eq_getElem (by rw[bl_len,HC.out];exact hkn)⟩;obtain⟨y,hy⟩: ∃y,(bl r)[k]? =some y:=⟨_,List.getElem?_eq_getElem (by rw[bl_len,HR.out];exact hkn)⟩;have ix:=ix_of hx;have iy:=ix_of hy;by_cases e:x=y
   ·have t3:((x.toNat:Int)==(y.toNat:Int))=true:=by rw[e];simp
    clear hx hy e kc
    go_wp2_with fail
    refine Go.Proofs.YtdbpkhnmhddmmaaGreatDoor.Q.region_ext (by kernel_rfl) (by kernel_rfl) ?_
    repeat (go_big_quiet_step (fail))
    refine wpQuiet_nil ?_;rintro w9 ⟨pq,rfl⟩;have hown9:=own_below hown (below_ext wr pq);have hb9:=hb.trans ((below_ext wr pq).mono hb.size);clear hown hb
    go_wp2_with fail
    go_roundw
    case rel=>exact⟨k+1,m,xs,by omega,by omega,by go_num,rfl,hown9,hb9⟩
    case measure=>simp[intOf];omega
   ·have t3:((x.toNat:Int)==(y.toNat:Int))=false:=beq_eq_false_iff_ne.2 (fun h=>e (UInt8.toNat_inj.1 (by omega)))
    have hin:k∈L:=by
     by_cases hin:k∈L
     ·exact hin
     ·refine absurd ?_ e
      have:=HH.out.same k hkn hin;rw[fa_in hy,←HB.out,fa_in hx]at this;exact this.symm
    clear hx hy e
    go_wp2_with fail
    refine Go.Proofs.YtdbpkhnmhddmmaaGreatDoor.Q.region_ext (by kernel_rfl) (by kernel_rfl) ?_
    repeat (go_big_quiet_step (fail))
    refine wpQuiet_nil ?_;rintro w9 ⟨pq,rfl⟩;have hown9:=own_below hown (below_ext wr pq);have hb9:=hb.trans ((below_ext wr pq).mono hb.size);obtain⟨W,hW⟩: ∃W,ext wr pq=W:=⟨_,rfl⟩;rw[hW]at hown9 hb9 ⊢;have hbk:=Blk.new W 3 #[.int .i64 (k:Int)];have hown2:=own_below hown9 ((Below.refl W.heap.size W).alloc (Nat.le_refl _) (.cells #[.int .i64 (k:Int)] 3));have hsz2:w.heap.size≤(W.alloc (.cells #[.int .i64 (k:Int)] 3)).heap.size:=by have:=hb9.size;simp;omega
    have hb2:=hb9.alloc hb9.size (.cells #[.int .i64 (k:Int)] 3);clear hown hb hown9 hb9 hW
    go_wp2_with (at_builtin;refine wpList_app rfl _ _ rfl elemI rfl hown2 rfl rfl (blk_news hbk) (by simp[Value.oneCell']) (by omega) (by unfold maxLen;omega) hsz2 ?_)
    intro v9 w8 hown9 hb8;have hb3:=hb2.trans hb8;have kc8:=kc w8 hb3 k hin;clear hown2 hbk hb2 hb8 kc
    go_wp2_with fail
    (with_reducible refine(kc8).mono ?_);rintro e5 W5 ⟨rfl,rfl⟩
    clear kc8
    go_wp2_with fail
    go_roundw
    case rel=>exact⟨k+1,m+1,_,by omega,by omega,by go_num,rfl,hown9,hb3⟩
    case measure=>simp[intOf];omega
  ·obtain rfl:k=255:=by omega
   have t2:decide (((255:Nat):Int)<255)=false:=by decide
   have t4:decide ((rm:Int)<0)=false:=decide_eq_false (by omega);obtain⟨av,ac,rfl⟩:=own_form hown;clear hown kc
   go_wp2_with fail
   (with_reducible refine(kr _).mono ?_);rintro e6 W6 ⟨rfl,rfl⟩
   clear kr
   go_wp2_with fail
   go_ret3
   exact⟨⟨_,rfl⟩,hb⟩
end Go.Proofs.YtdbpkhnmhddmmaaGreatDoor.MdE
