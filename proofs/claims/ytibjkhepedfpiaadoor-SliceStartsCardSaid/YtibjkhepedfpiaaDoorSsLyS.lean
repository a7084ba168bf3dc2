import Derived.Test.YtibjkhepedfpiaaDoorSsRdV
import Derived.Test.YtibjkhepedfpiaaDoorSsRdS
import Derived.Test.YtibjkhepedfpiaaDoorSsLyA
import Derived.Test.YtibjkhepedfpiaaDoorSsStA
import Derived.Test.YtibjkhepedfpiaaDoorSsSlT
import Derived.Test.YtibjkhepedfpiaaDoorSsSlQ
namespace Go.Proofs.YtibjkhepedfpiaaDoor.LyB
open Go Go.RowKit Mem St BiH SeG PaA PaR PaP PaN PaK SlM SlP SlR SlS SlW PkP PkY PkL RdP RdQ RdW RdV RdS LyP LyA StP
theorem lay_fold: ∀(L:List Br) (s:Lst),LayOk s L→(∀b∈L,Small b)→LayOk (L.foldl layStep s) []
 |[],_,h,_=>h
 |b::t,s,h,hs=>lay_fold t _ (h.step (hs b (by simp))) (fun x hx=>hs x (by simp[hx]))
theorem lay_ok {L:List Br} (h:checkE 0 L=0) (hs: ∀b∈L,Small b):LayOk (layF L) []:=
 lay_fold L _ ⟨h,fun p hp=>(by cases hp),fun x=>(by show 0<16;omega),by show 0≤1080000;omega⟩ hs
theorem map_bl_inj: ∀(a b:List ByteArray),a.map bl=b.map bl→a=b
 |[],[],_=>rfl
 |[],_::_,h=>by simp at h
 |_::_,[],h=>by simp at h
 |x::a,y::b,h=>by
  rw[List.map_cons,List.map_cons]at h;injection h with h1 h2
  rw[bl_inj h1,map_bl_inj a b h2]
noncomputable def got (x:Int) (L:List Br):Rs:=rdUp x (layF L).out (layF L).out.length
theorem got_is {L:List Br} (h:checkE 0 L=0) (x:Int) (hx:x≠8191):(got x L).T=((bsOf x L).map Br.S).flatten∧(got x L).n=((bsOf x L).map fun b=>nS b.S).sum∧(got x L).held=nob:=by
 obtain⟨h1,h2,h3,h4⟩:=lay_read h x hx;obtain⟨u1,u2⟩:=up_fold x (layF L).out _ (Nat.le_refl _);rw[List.take_of_length_le (Nat.le_refl _)]at u1 u2;rw[h1]at u1;injection u1 with u1 u3
 refine⟨map_bl_inj _ _ ?_,by rw[←h4];exact u2,bl_nob.2 u3⟩;show(rdUp x (layF L).out (layF L).out.length).T.map bl=_;rw[u1,List.map_flatten,List.map_map];rfl
theorem read_lay (x:Int) (L:List Br) (w:World) (h:checkE 0 L=0) (hs: ∀b∈L,Small b) (hx:x≠8191):Calls Tryd.prog 12 #[.string (layB L),.int .i64 x] w (GotOk w (got x L)):=by
 have hk:=lay_ok h hs;obtain⟨h1,h2,h3,h4⟩:=lay_read h x hx;rw[show layB L=str (airL (layF L).out)from if_pos h];exact read_any x (layF L).out w hk.ok (by have:=hk.len;omega) (good_all h2 h3) (got_is h x hx).2.2
theorem got_slots {b:Br} (h:checkE 0 [b]=0):(got b.pid [b]).sl=(stS (b.at_-1) 0 (b.S.map ByteArray.size)).map Prod.fst∧(got b.pid [b]).en=(stS (b.at_-1) 0 (b.S.map ByteArray.size)).map Prod.snd:=by
 obtain⟨h1,h2,_,_⟩:=checkE_cons h;have hx:b.pid≠8191:=by have:=h1.2.1;omega
 have e:(layF [b]).out=List.replicate b.at_.toNat nilPk++pks b.pid 0 b.S (nS b.S):=by
  show([]++List.replicate (b.at_.toNat-0) nilPk++pks b.pid 0 b.S (nS b.S))=_;simp
 have hl:(layF [b]).out.length=b.at_.toNat+nS b.S:=by rw[e,List.length_append,List.length_replicate,pks_len]
 have:=burst_slots (k0:=b.at_.toNat) hx 0 (many_first h2).2;unfold got;rw[hl,e];rw[show((b.at_.toNat:Nat):Int)=b.at_ by have:=h1.2.2.1;omega]at this;exact this
end Go.Proofs.YtibjkhepedfpiaaDoor.LyB
namespace Go.Proofs.YtibjkhepedfpiaaDoor.LyS
open Go Go.RowKit Q Mem Rg Ap ApG St CrB PaA PaK PaP SlM SlA SlB SlC SlP SlR SlS SlW SlX SlT SlOpn PkE PkL StP StA LyA LyB
set_option maxRecDepth 100000
theorem near_any (e:Int) (w:World):Calls Tryd.prog 9 #[.int .i64 e] w fun E w'=>E= .returned (.bool (decide (e<1000)))∧w=w':=by
 go_enter Tryd.func9,Tryd.ntmps9
 go_wp2_with fail
 go_ret;exact⟨rfl,rfl⟩
theorem rb_small {r:Rn} (h:fewR r) (hi: ∀p∈r.l,PcOk p):Small (rb r):=by
 obtain⟨h1,h2,h3⟩:=h;refine⟨by show(r.l.map Pc.bytes).length≤1000;rw[List.length_map];omega,fun s hs=>?_⟩;obtain⟨p,hp,rfl⟩:=List.mem_map.1 hs;exact SlQ.bytes_size p (h3 p hp) (hi p hp).2
set_option maxHeartbeats 6400000 in
theorem law_any (r:Rn) (w:World) (hW:Wid 0 w) (hin:RnIn w r):
 Calls Tryd.prog 4 #[.agg #[.int .i64 r.pid,.int .i64 r.at_,.slice r.la r.l.length r.lc]] w fun e w'=>e= .returned (.bool true)∧Below w.heap.size w w':=by
 have hen:enRn r=[.int .i64 r.pid,.int .i64 r.at_,.slice r.la r.l.length r.lc]:=rfl;have kf:=fun(V:World) (g:Nat) (hB:Blk V g 45 #[.int .i64 r.pid,.int .i64 r.at_,.slice r.la r.l.length r.lc]) (hb:Below w.heap.size w V)=>few_any (some ⟨g,0,none⟩) 1 1 [r] V rfl (by decide) (seq_blk (sz:=3) (fun _=>rfl) hB (by simp[flat,hen])) (fun y hy=>by simp at hy;rw[hy];exact⟨hin.1.below (Nat.le_refl _) hb,hin.2.1⟩)
 have hfew:fewB [r]=decide (fewR r):=by
  unfold fewB;simp
 rw[hfew]at kf;have HW:=Lib.hid hW;by_cases hfr:fewR r
 ·rw[decide_eq_true hfr]at kf
  have kb:=fun(V:World) (g:Nat) (hB:Blk V g 45 #[.int .i64 r.pid,.int .i64 r.at_,.slice r.la r.l.length r.lc]) (hb:Below w.heap.size w V)=>bursts_any (some ⟨g,0,none⟩) 1 1 [r] V rfl (by decide) (seq_blk (sz:=3) (fun _=>rfl) hB (by simp[flat,hen])) (fun y hy=>by simp at hy;rw[hy];exact⟨hin.1.below (Nat.le_refl _) hb,hin.2⟩) (fun y hy=>by simp at hy;rw[hy];exact hfr.1);have hsB:=rb_small hfr hin.2.2;obtain⟨B,hB⟩: ∃B,rb r=B:=⟨_,rfl⟩;rw[show[r].map rb=[B] by rw[←hB];rfl]at kb;have HBB:=Lib.hid (show Small B∧B.S.length≤8∧B.pid=r.pid∧B.at_=r.at_ from by rw[←hB];exact⟨hsB,by show(r.l.map Pc.bytes).length≤8;rw[List.length_map];exact hfr.1,rfl,rfl⟩);obtain⟨pid,at_,la,lc,l⟩:=r;dsimp only at kf kb HBB ⊢;obtain⟨M,hM⟩: ∃M,l.length=M:=⟨_,rfl⟩;rw[hM]at kf kb ⊢;have hb1:Below w.heap.size w ((w.alloc (.cells #[.int .i64 pid,.int .i64 at_,.slice la M lc] 45)).alloc (.cells #[.int .i64 pid,.int .i64 at_,.slice la M lc] 45)):=((Below.refl _ _).alloc (Nat.le_refl _) _).alloc (by simp) _;have kf1:=kf _ (w.heap.size+1) (Blk.newAt (w.alloc (.cells #[.int .i64 pid,.int .i64 at_,.slice la M lc] 45)) 45 #[.int .i64 pid,.int .i64 at_,.slice la M lc] (by simp)) hb1;have hb1':=hb1.alloc hb1.size (.cells #[.int .i64 pid,.int .i64 at_,.slice la M lc] 45);have kb1:=kb _ (w.heap.size+2) (Blk.newAt ((w.alloc (.cells #[.int .i64 pid,.int .i64 at_,.slice la M lc] 45)).alloc (.cells #[.int .i64 pid,.int .i64 at_,.slice la M lc] 45)) 45 #[.int .i64 pid,.int .i64 at_,.slice la M lc] (by simp)) hb1';have hk1:Blk (((w.alloc (.cells #[.int .i64 pid,.int .i64 at_,.slice la M lc] 45)).alloc (.cells #[.int .i64 pid,.int .i64 at_,.slice la M lc] 45)).alloc (.cells #[.int .i64 pid,.int .i64 at_,.slice la M lc] 45)) w.heap.size 45 #[.int .i64 pid,.int .i64 at_,.slice la M lc]:=Blk.alloc (Blk.alloc (Blk.new _ _ _) _) _;clear kf kb hsB hB hM hen hfew hin hW hfr hb1
  go_enter Tryd.func4,Tryd.ntmps4
  go_wp2_with fail
  (with_reducible refine(kf1).mono ?_);rintro e1 W1 ⟨rfl,rfl⟩
  clear kf1
  go_wp2_with fail
  (with_reducible refine(kb1).mono ?_);rintro e2 W2 ⟨v,D,rfl,hD,hown,hDok,hb2⟩
  have hbW:=hb1'.trans (hb2.mono hb1'.size);have hk2:=Blk.below hk1 hb2 hk1.lt;clear kb1 hb1' hk1 hb2
  obtain⟨d,rfl,hd⟩: ∃d,D=[d]∧d.b=B:=by
   match D,hD with
   |[d],h=>exact⟨d,rfl,by simpa using h⟩
  obtain⟨ad,cd,rfl,hcd⟩:=own_cap hown;have hsq:=own_seq (en:=enBu) enBu_len hown rfl;have hdk:=hDok d (by simp);have kw:=wrong_any ad 1 cd [d] W2 rfl (by decide) hsq hDok (fun y hy=>by simp at hy;rw[hy,hd];exact HBB.out.1);rw[show[d].map Bu.b=[B] by rw[←hd];rfl]at kw;obtain⟨b0,o0,rfl,hlt,hc⟩:=hsq 0 d rfl;have HC:=Lib.hid (And.intro (hc 0 _ rfl) (And.intro (hc 1 _ rfl) (hc 2 _ rfl)));have HDK:=Lib.hid hdk;have HSQ:=Lib.hid hsq;have HD:=Lib.hid hd;clear hown hcd hsq hdk hDok hc hd hD;obtain⟨⟨dp,da,S⟩,sa,sc⟩:=d;obtain rfl:B=⟨dp,da,S⟩:=HD.out.symm;dsimp only at HC HDK HSQ HBB;obtain⟨n,hn⟩: ∃n,S.length=n:=⟨_,rfl⟩;have HN:=Lib.hid hn;have ks:=fun V hV=>starts_any ⟨⟨dp,da,S⟩,sa,sc⟩ V hV HBB.out.1;dsimp only at ks;rw[hn]at HC ks;obtain rfl:dp=pid:=HBB.out.2.2.1;obtain rfl:da=at_:=HBB.out.2.2.2;clear HD hn
  have cc: ∀W,Below W2.heap.size W2 W→W.cell? ⟨b0,o0,none⟩=some (.int .i64 dp)∧W.cell? ⟨b0,o0+1,none⟩=some (.int .i64 da)∧W.cell? ⟨b0,o0+2,none⟩=some (.slice sa n sc):=fun W hW=>by
   obtain⟨h0,h1,h2⟩:=HC.out;rw[off_eq,Nat.zero_mul,Nat.add_zero]at h0 h1 h2;exact⟨(hW.cell (p:=⟨b0,o0,none⟩) hlt).trans h0,(hW.cell (p:=⟨b0,o0+1,none⟩) hlt).trans h1,(hW.cell (p:=⟨b0,o0+2,none⟩) hlt).trans h2⟩
  have HCC:=Lib.hid cc;clear cc HC;by_cases hce:checkE 0 [⟨dp,da,S⟩]=0
  ·have ks1:=fun V hV=>(ks V hV).mono fun e w' h=>h.ok hce
   rw[if_pos hce,hce]at kw;obtain⟨en,hen⟩: ∃en,endE 0 [⟨dp,da,S⟩]=en:=⟨_,rfl⟩;rw[hen]at kw;have HEN:=Lib.hid hen;have HCE:=Lib.hid hce;clear ks hen hce
   go_wp2_with fail
   (with_reducible refine(kw).mono ?_);rintro e3 W3 ⟨rfl,hb3⟩
   obtain⟨c0,c1,c2⟩:=HCC.out W3 hb3;have ks2:=ks1 W3 (HDK.out.below (Nat.le_refl _) hb3);clear kw ks1
   go_wp2_with fail
   (with_reducible refine(ks2).mono ?_);rintro e4 W4 ⟨v1,v2,rfl,hS⟩
   have HS:=Lib.hid hS;have hb4:=hb3.trans (hS.be.mono hb3.size);obtain⟨d0,d1,d2⟩:=HCC.out W4 hb4;clear ks2 c0 c1 c2 hS;obtain⟨L1,hL1⟩: ∃x,(stS (da-1) 0 (S.map ByteArray.size)).map Prod.fst=x:=⟨_,rfl⟩;obtain⟨L2,hL2⟩: ∃x,(stS (da-1) 0 (S.map ByteArray.size)).map Prod.snd=x:=⟨_,rfl⟩;have hl1:L1.length=n:=by rw[←hL1,List.length_map,stS_len,List.length_map,HN.out]
   have hl2:L2.length=n:=by rw[←hL2,List.length_map,stS_len,List.length_map,HN.out]
   rw[hL1,hL2]at HS;have o1:=HS.out.o1;have o2:=HS.out.o2;rw[hl1]at o1;rw[hl2]at o2;obtain⟨a1,k1,rfl⟩:=own_form o1;obtain⟨a2,k2,rfl⟩:=own_form o2;have HQ:=Lib.hid (And.intro (own_seq (en:=en1) (fun _=>rfl) o1 hl1) (own_seq (en:=en1) (fun _=>rfl) o2 hl2));have HLL:=Lib.hid (And.intro (And.intro hL1 hL2) (And.intro hl1 hl2));have hn8:n≤8:=by rw[←HN.out];exact HBB.out.2.1
   clear o1 o2 hL1 hL2 hl1 hl2 HS;by_cases hne:en<1000
   ·have t1:decide (en<1000)=true:=decide_eq_true hne
    have hbT:=hbW.trans (hb4.mono hbW.size);have kl:=lay_any (some ⟨b0,o0,none⟩) 1 cd [⟨⟨dp,da,S⟩,sa,sc⟩] W4 (HW.out.be hbT) rfl (by decide) (HSQ.out.below (Nat.le_refl _) hb4) (fun y hy=>by simp at hy;rw[hy];exact HDK.out.below (Nat.le_refl _) hb4) (fun y hy=>by simp at hy;rw[hy];exact HBB.out.1);rw[show[(⟨⟨dp,da,S⟩,sa,sc⟩:Bu)].map Bu.b=[⟨dp,da,S⟩]from rfl,HCE.out]at kl;have hx:dp≠8191:=by have:=(checkE_cons HCE.out).1.2.1;dsimp only at this;omega
    have kr:=fun V=>(read_lay dp [⟨dp,da,S⟩] V HCE.out (fun y hy=>by simp at hy;rw[hy];exact HBB.out.1) hx).mono fun e w' h=>And.intro h.ex h.be;obtain⟨X,hX⟩: ∃X,layB [⟨dp,da,S⟩]=X:=⟨_,rfl⟩;rw[hX]at kl kr;have hgs:=got_slots HCE.out;dsimp only at hgs;rw[HLL.out.1.1,HLL.out.1.2]at hgs;obtain⟨G,hG⟩: ∃G,RdW.Rs.mk (got dp [⟨dp,da,S⟩]).T L1 L2 (got dp [⟨dp,da,S⟩]).held (got dp [⟨dp,da,S⟩]).fr (got dp [⟨dp,da,S⟩]).n=G:=⟨_,rfl⟩;have hGe:got dp [⟨dp,da,S⟩]=G:=by rw[←hG,←hgs.1,←hgs.2]
    rw[hGe]at kr;have hG1:G.sl=L1:=by rw[←hG]
    have hG2:G.en=L2:=by rw[←hG]
    rw[hG1,hG2,HLL.out.2.1,HLL.out.2.2]at kr;have hk4:=Blk.below hk2 hb4 hk2.lt;clear hX hG hGe hG1 hG2 hgs hk2 hx
    go_wp2_with fail
    (with_reducible refine(near_any en _).mono ?_);rintro e5 W5 ⟨rfl,rfl⟩
    go_wp2_with fail
    (with_reducible refine(kl).mono ?_);rintro e6 W6 ⟨rfl,hb6⟩
    have hk6:=Blk.below hk4 hb6 hk4.lt;have f0:=Blk.cell hk6 0 (v:= .int .i64 dp) rfl;clear kl hk4 d0 d1 d2
    go_wp2_with fail
    (with_reducible refine(kr W6).mono ?_);rintro e7 W7 ⟨⟨x0,x1,x2,rfl,p0,p1,p2⟩,hb7⟩
    obtain⟨y0,z0,rfl⟩:=own_form p0;obtain⟨y1,z1,rfl⟩:=own_form p1;obtain⟨y2,z2,rfl⟩:=own_form p2;have HQ2:=Lib.hid (And.intro (own_seq (en:=RdW.enI) (fun _=>rfl) p1 HLL.out.2.1) (own_seq (en:=RdW.enI) (fun _=>rfl) p2 HLL.out.2.2));have hb8:=hb6.trans (hb7.mono hb6.size);clear p0 p1 p2 kr f0 hk6;have hk9:=Blk.new W7 39 #[.slice y0 G.T.length z0,.slice y1 n z1,.slice y2 n z2,.int .i64 (G.n:Int),.bool true];have hb9:=hb8.alloc hb8.size (.cells #[.slice y0 G.T.length z0,.slice y1 n z1,.slice y2 n z2,.int .i64 (G.n:Int),.bool true] 39);have hb79:=(Below.refl W7.heap.size W7).alloc (Nat.le_refl _) (.cells #[.slice y0 G.T.length z0,.slice y1 n z1,.slice y2 n z2,.int .i64 (G.n:Int),.bool true] 39);obtain⟨Wc,hWc⟩: ∃Wc,W7.alloc (.cells #[.slice y0 G.T.length z0,.slice y1 n z1,.slice y2 n z2,.int .i64 (G.n:Int),.bool true] 39)=Wc:=⟨_,rfl⟩;rw[hWc]at hk9 hb9 hb79;have f0:=Blk.cell (hk9) 0 (v:= .slice y0 G.T.length z0) rfl;have f1:=Blk.cell (hk9) 1 (v:= .slice y1 n z1) rfl;have f2:=Blk.cell (hk9) 2 (v:= .slice y2 n z2) rfl;have f3:=Blk.cell (hk9) 3 (v:= .int .i64 (G.n:Int)) rfl;have f4:=Blk.cell (hk9) 4 (v:= .bool true) rfl
    go_upto_region 14 with fail
    try rw[hWc]
    clear hWc
    go_wp2_with fail
    have HK9:=Lib.hid hk9;have HB9:=Lib.hid (And.intro hb9 hb79);clear f0 f1 f2 f3 f4 hk9 hb79
    go_loopw [12] (fun iv wr=> ∃q:Nat,q≤n∧iv= .int .i64 q∧Below Wc.heap.size Wc wr) (fun iv _=>n-(intOf iv).toNat)
    case atStart=>exact⟨0,by omega,rfl,Below.refl _ _⟩
    case round=>
     obtain⟨q,hq,rfl,hbr⟩:=hrel;by_cases hqn:q<n
     ·have t2:decide (q<n)=true:=decide_eq_true hqn
      obtain⟨e1,he1⟩: ∃e,L1[q]? =some e:=⟨_,List.getElem?_eq_getElem (by rw[HLL.out.2.1];exact hqn)⟩;obtain⟨e2,he2⟩: ∃e,L2[q]? =some e:=⟨_,List.getElem?_eq_getElem (by rw[HLL.out.2.2];exact hqn)⟩;obtain⟨B1,O1,rfl,l1,q1⟩:=HQ.out.1 q e1 he1;obtain⟨B2,O2,rfl,l2,q2⟩:=HQ.out.2 q e2 he2;obtain⟨B3,O3,rfl,l3,q3⟩:=HQ2.out.1 q e1 he1;obtain⟨B4,O4,rfl,l4,q4⟩:=HQ2.out.2 q e2 he2;have j0:(0:Int)≤(q:Int):=Int.natCast_nonneg _;have j1:(q:Int)<(n:Int):=by omega
      have r1:=q1 0 _ rfl;have r2:=q2 0 _ rfl;have r3:=q3 0 _ rfl;have r4:=q4 0 _ rfl;rw[off_eq,Nat.mul_one,Nat.add_zero]at r1 r2 r3 r4;have hx:=fun p=>HB9.out.1.trans ((hbr.trans ((below_ext wr p).mono hbr.size)).mono HB9.out.1.size);have hy:=fun p=>HB9.out.2.trans ((hbr.trans ((below_ext wr p).mono hbr.size)).mono HB9.out.2.size);have s1:=fun p=>((hx p).cell (p:=⟨B1,O1+q,none⟩) l1).trans r1;have s2:=fun p=>((hx p).cell (p:=⟨B2,O2+q,none⟩) l2).trans r2;have s3:=fun p=>((hy p).cell (p:=⟨B3,O3+q,none⟩) l3).trans r3;have s4:=fun p=>((hy p).cell (p:=⟨B4,O4+q,none⟩) l4).trans r4;have hk:=Blk.below HK9.out hbr HK9.out.lt;have f1:=fun pX=>Blk.cell (blk_ext (hk) pX) 1 (v:= .slice (some ⟨B3,O3,none⟩) n z1) rfl;have f2:=fun pX=>Blk.cell (blk_ext (hk) pX) 2 (v:= .slice (some ⟨B4,O4,none⟩) n z2) rfl;clear q1 q2 q3 q4 r1 r2 r3 r4 hx hy he1 he2 l1 l2 l3 l4 hk
      go_wp2_with fail
      refine Go.Proofs.YtibjkhepedfpiaaDoor.Q.region_ext (by kernel_rfl) (by kernel_rfl) ?_
      repeat (go_big_quiet_step (fail))
      refine wpQuiet_nil ?_;rintro w9 ⟨pq,rfl⟩;have hbq:=hbr.trans ((below_ext wr pq).mono hbr.size);clear s1 s2 s3 s4 f1 f2
      go_wp2_with fail
      go_roundw
      case rel=>exact⟨q+1,by omega,by go_num,hbq⟩
      case measure=>simp[intOf];omega
     ·obtain rfl:q=n:=by omega
      have t2:decide (q<q)=false:=by simp
      have hbz:=(hbT.trans (HB9.out.1.mono hbT.size)).trans (hbr.mono (by have:=hbT.size;have:=HB9.out.1.size;omega))
      go_wp2_with fail
      (with_reducible refine(awake_any _).mono ?_);rintro e8 W8 ⟨rfl,hb8⟩
      go_wp2_with fail
      go_ret;exact⟨rfl,(hbz).trans (hb8.mono (hbz).size)⟩
   ·have t1:decide (en<1000)=false:=decide_eq_false hne
    clear hk2
    go_wp2_with fail
    (with_reducible refine(near_any en _).mono ?_);rintro e5 W5 ⟨rfl,rfl⟩
    clear hne
    go_wp2_with fail
    (with_reducible refine(awake_any _).mono ?_);rintro e8 W8 ⟨rfl,hb8⟩
    go_wp2_with fail
    go_ret;exact⟨rfl,(hbW.trans (hb4.mono hbW.size)).trans (hb8.mono (hbW.trans (hb4.mono hbW.size)).size)⟩
  ·have ks1:=fun V hV=>(ks V hV).mono fun e w' h=>And.intro (h.bad hce) h.be
   rw[if_neg hce]at kw;obtain⟨CE,hCE⟩: ∃CE,checkE 0 [⟨dp,da,S⟩]=CE:=⟨_,rfl⟩;rw[hCE]at kw ks1 hce;have x0:(CE==0)=false:=beq_eq_false_iff_ne.2 hce;clear ks hCE hce hk2
   go_wp2_with fail
   (with_reducible refine(kw).mono ?_);rintro e3 W3 ⟨rfl,hb3⟩
   obtain⟨c0,c1,c2⟩:=HCC.out W3 hb3;have ks2:=ks1 W3 (HDK.out.below (Nat.le_refl _) hb3);clear kw ks1
   go_wp2_with fail
   (with_reducible refine(ks2).mono ?_);rintro e4 W4 ⟨rfl,hb4⟩
   have hb5:=hb3.trans (hb4.mono hb3.size);clear ks2 c0 c1 c2
   go_wp2_with fail
   (with_reducible refine(awake_any _).mono ?_);rintro e8 W8 ⟨rfl,hb8⟩
   go_wp2_with fail
   go_ret;exact⟨rfl,(hbW.trans (hb5.mono hbW.size)).trans (hb8.mono (hbW.trans (hb5.mono hbW.size)).size)⟩
 ·rw[decide_eq_false hfr]at kf
  obtain⟨pid,at_,la,lc,l⟩:=r;dsimp only at kf ⊢;obtain⟨M,hM⟩: ∃M,l.length=M:=⟨_,rfl⟩;rw[hM]at kf ⊢;have hb1:Below w.heap.size w ((w.alloc (.cells #[.int .i64 pid,.int .i64 at_,.slice la M lc] 45)).alloc (.cells #[.int .i64 pid,.int .i64 at_,.slice la M lc] 45)):=((Below.refl _ _).alloc (Nat.le_refl _) _).alloc (by simp) _;have kf1:=kf _ (w.heap.size+1) (Blk.newAt (w.alloc (.cells #[.int .i64 pid,.int .i64 at_,.slice la M lc] 45)) 45 #[.int .i64 pid,.int .i64 at_,.slice la M lc] (by simp)) hb1;clear kf hM hen hfew hin hW hfr
  go_enter Tryd.func4,Tryd.ntmps4
  go_wp2_with fail
  (with_reducible refine(kf1).mono ?_);rintro e1 W1 ⟨rfl,rfl⟩
  go_wp2_with fail
  (with_reducible refine(awake_any _).mono ?_);rintro e8 W8 ⟨rfl,hb8⟩
  go_wp2_with fail
  go_ret;exact⟨rfl,(hb1).trans (hb8.mono (hb1).size)⟩
end Go.Proofs.YtibjkhepedfpiaaDoor.LyS
