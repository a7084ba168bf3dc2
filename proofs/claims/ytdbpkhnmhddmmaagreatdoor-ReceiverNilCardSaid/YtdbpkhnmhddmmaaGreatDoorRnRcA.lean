import Derived.Test.YtdbpkhnmhddmmaaGreatDoorRnTpW
import Derived.Test.YtdbpkhnmhddmmaaGreatDoorRnPkZ
import Derived.Test.YtdbpkhnmhddmmaaGreatDoorRnRgY
namespace Go.Proofs.YtdbpkhnmhddmmaaGreatDoor.RcA
open Go Go.RowKit Q Mem Rg RgA Ap St BiH CrB Tab TbM TbO TbP TbT TbU TbV TbW TmA BuB BuC BuI BuN BuO BuP BuT JnP JnA JnE TpW
structure Rv where
 always:Bool
 j:Jn
 S:Tb
 mac:Int
 n:Nat
 m:Aw.M
 sec:Nat
 wrong:Nat
 frames:Nat
 failed:Nat
 out:List ByteArray
def txL (S:Tb) (C:Nat→List UInt8):List ByteArray:=(outAt (mdS S C S.R) 0).map (fun z=>str (bytesL (mdS S C S.R) z.1 z.2))
def Rv.endR (x:Rv) (C:Nat→List UInt8):Rv:={x with S:=emptyT x.S.R,n:=0,frames:=x.frames+1,failed:=if 0<cntF x.S x.S.R then x.failed+1 else x.failed,out:=x.out++txL x.S C}
def Rv.wakes (x:Rv):Rv:={x with sec:=x.sec+1,m:=if x.m.state=2 then x.m.reset else x.m}
def Rv.early (x:Rv):Bool:=(x.m.state !=4)&&decide (0<x.n)
noncomputable def Rv.hears (x:Rv) (s:ByteArray):Rv:={x with m:=x.m.heard (tmT s).delta (tmT s).frame (tmT s).at_}
def Rv.gets (x:Rv) (s:ByteArray):Rv:={x with S:=tkT x.S x.mac s,n:=tkN x.S.R x.mac s x.n,wrong:=if BuP.tkE x.S.R x.mac s=0 then x.wrong else x.wrong+1}
def Rv.last (x:Rv) (s:ByteArray):Bool:=decide (BuP.tkE x.S.R x.mac s=0)&&BuP.tkF x.S.R x.mac s
def Rv.pre (x:Rv) (C:Nat→List UInt8):Rv:=if x.wakes.early then x.wakes.endR C else x.wakes
noncomputable def Rv.takeR (x:Rv) (s:ByteArray) (C D:Nat→List UInt8):Rv:=
 if tmE s≠0 then {x with wrong:=x.wrong+1}
 else if x.m.state=2∧x.always=false then {x with sec:=x.sec+1}
 else if((x.pre C).hears s).last s then(((x.pre C).hears s).gets s).endR D else((x.pre C).hears s).gets s
theorem outF_len (S:Tb) (hok:Ok S): ∀(f p:Nat),p≤191*S.R→p+(outF S f p).length≤191*S.R
 |0,p,hp=>by simp[outF];exact hp
 |f+1,p,hp=>by
  rw[outF];have hd:=dN_in S p hp
  split
  ·have:=outF_len S hok f _ hd
   simp;omega
  ·split
   ·rename_i q hq
    have h1:=hok.lt q (nxt_mem hq);have h2:=nxt_gt hok.up hq;have:=outF_len S hok f q (by omega);omega
   ·simpa using hp
theorem md_ok {S:Tb} (h:Ok S) (C:Nat→List UInt8):Ok (mdS S C S.R):=⟨h.R,h.R0,h.st,h.up,h.lt⟩
theorem txL_len {S:Tb} (h:Ok S) (C:Nat→List UInt8):(txL S C).length≤195584:=by
 unfold txL;rw[List.length_map];have h1:=outF_len _ (md_ok h C) (191*(mdS S C S.R).R+1-0) 0 (by omega);have h2:(mdS S C S.R).R≤1024:=h.R;have h3:(outAt (mdS S C S.R) 0).length=(outF (mdS S C S.R) (191*(mdS S C S.R).R+1-0) 0).length:=rfl;omega
def rcV (x:Rv) (gj gg gm:Nat) (ov:Value):Array Value:= #[.bool x.always,.pointer (some ⟨gj,0,none⟩),.pointer (some ⟨gg,0,none⟩),.pointer (some ⟨gm,0,none⟩),.int .i64 (x.sec:Int),.int .i64 (x.wrong:Int),.int .i64 (x.frames:Int),.int .i64 (x.failed:Int),.int .i64 0,.int .i64 0,.int .i64 0,.int .i64 0,.int .i64 0,.int .i64 0,.int .i64 0,.int .i64 0,ov]
structure RvIn (w:World) (B r gj gg gt gr gm:Nat) (v ov:Value) (x:Rv):Prop where
 box:Blk w r 82 (rcV x gj gg gm ov)
 jn:JnIn w gj x.j
 ga:GaA w B gg gt gr v x.S x.mac x.n
 m:AwB.At w gm x.m
 out:w.ownsRow B 9 1 ov x.out.length (flat enS x.out)
 rb:B≤r
 jb:B≤gj
 mb:B≤gm
def footR (r gj gg gt gr gm:Nat) (v ov:Value) (i:Nat):Prop:=i=r∨i=gj∨footG gg gt gr v i∨i=gm∨ov.ownBlock=some i
section
variable {w w':World} {B r gj gg gt gr gm:Nat} {v v' ov ov':Value} {x:Rv}
theorem RvIn.below (h:RvIn w B r gj gg gt gr gm v ov x) (k:Below w.heap.size w w'):RvIn w' B r gj gg gt gr gm v ov x:=
 ⟨Blk.below h.box k (Blk.lt h.box),h.jn.below k,h.ga.below k,Blk.below h.m k (Blk.lt h.m),own_below h.out k,h.rb,h.jb,h.mb⟩
theorem RvIn.ge (h:RvIn w B r gj gg gt gr gm v ov x): ∀i,footR r gj gg gt gr gm v ov i→B≤i∧i<w.heap.size:=by
 rintro i (e|e|e|e|e)
 ·subst e;exact⟨h.rb,Blk.lt h.box⟩
 ·subst e;exact⟨h.jb,Blk.lt h.jn⟩
 ·exact h.ga.ge i e
 ·subst e;exact⟨h.mb,Blk.lt h.m⟩
 ·exact h.out.lt i e
theorem footR_far {i:Nat} (hf:far w ov ov') (hi:i<w.heap.size) (e:footR r gj gg gt gr gm v ov' i) (h0: ∀i,footG gg gt gr v i→footG gg gt gr v' i∨w.heap.size≤i):footR r gj gg gt gr gm v' ov i:=by
 rcases e with e|e|e|e|e
 ·exact Or.inl e
 ·exact Or.inr (Or.inl e)
 ·rcases h0 i e with e|e
  ·exact Or.inr (Or.inr (Or.inl e))
  ·omega
 ·exact Or.inr (Or.inr (Or.inr (Or.inl e)))
 ·rcases hf with h|⟨j,h,hj⟩
  ·exact Or.inr (Or.inr (Or.inr (Or.inr (h▸e))))
  ·rw[h]at e;injection e with e;omega
theorem RvIn.off (h:RvIn w B r gj gg gt gr gm v ov x) {i:Nat} {t:TypeId} (hi:Tyb w i t) (h0:t≠82) (h1:t≠86) (h2:t≠91) (h3:t≠159) (h4:t≠229) (h5:t≠3) (h6:t≠96) (h7:t≠9): ¬footR r gj gg gt gr gm v ov i:=by
 rintro(e|e|e|e|e)
 ·subst e;exact h0 (hi.uniq (tyb_blk h.box))
 ·subst e;exact h1 (hi.uniq (tyb_blk (show Blk w i 86 _ from h.jn)))
 ·exact ga_off h.ga hi h2 h3 h4 h5 e
 ·subst e;exact h6 (hi.uniq (tyb_blk (show Blk w i 96 _ from h.m)))
 ·exact h7 (hi.uniq (tyb_own h.out e))
theorem RvIn.kept {F:Nat→Prop} (h:RvIn w B r gj gg gt gr gm v ov x) (k:Kept F w w') (hF: ∀i,footR r gj gg gt gr gm v ov i→ ¬F i):RvIn w' B r gj gg gt gr gm v ov x:=
 ⟨(k.block r (Blk.lt h.box) (hF r (Or.inl rfl))).trans h.box,(k.block gj (Blk.lt h.jn) (hF gj (Or.inr (Or.inl rfl)))).trans h.jn,ga_kept h.ga k (fun i hi=>hF i (Or.inr (Or.inr (Or.inl hi)))),(k.block gm (Blk.lt h.m) (hF gm (Or.inr (Or.inr (Or.inr (Or.inl rfl)))))).trans h.m,FrA.own_kept h.out k (fun i hi=>hF i (Or.inr (Or.inr (Or.inr (Or.inr hi))))),h.rb,h.jb,h.mb⟩
theorem RvIn.r_off (h:RvIn w B r gj gg gt gr gm v ov x):gj≠r∧ ¬footG gg gt gr v r∧gm≠r∧ov.ownBlock≠some r:=
 have hr:=tyb_blk h.box
 ⟨fun e=>absurd (hr.uniq (tyb_blk (show Blk w r 86 _ from e▸h.jn))) (by decide),ga_off h.ga hr (by decide) (by decide) (by decide) (by decide),fun e=>absurd (hr.uniq (tyb_blk (show Blk w r 96 _ from e▸h.m))) (by decide),fun e=>absurd (hr.uniq (tyb_own h.out e)) (by decide)⟩
theorem RvIn.j_off (h:RvIn w B r gj gg gt gr gm v ov x): ¬footG gg gt gr v gj∧gm≠gj∧ov.ownBlock≠some gj:=
 have hr:=tyb_blk (show Blk w gj 86 _ from h.jn)
 ⟨ga_off h.ga hr (by decide) (by decide) (by decide) (by decide),fun e=>absurd (hr.uniq (tyb_blk (show Blk w gj 96 _ from e▸h.m))) (by decide),fun e=>absurd (hr.uniq (tyb_own h.out e)) (by decide)⟩
theorem RvIn.m_off (h:RvIn w B r gj gg gt gr gm v ov x): ¬footG gg gt gr v gm∧ov.ownBlock≠some gm:=
 have hr:=tyb_blk (show Blk w gm 96 _ from h.m)
 ⟨ga_off h.ga hr (by decide) (by decide) (by decide) (by decide),fun e=>absurd (hr.uniq (tyb_own h.out e)) (by decide)⟩
theorem RvIn.o_off (h:RvIn w B r gj gg gt gr gm v ov x) {i:Nat} (hi:ov.ownBlock=some i): ¬footG gg gt gr v i:=ga_off h.ga (tyb_own h.out hi) (by decide) (by decide) (by decide) (by decide)
theorem RvIn.ga_step {S':Tb} {n':Nat} (h:RvIn w B r gj gg gt gr gm v ov x) (hg:GaA w' B gg gt gr v' S' x.mac n') (k:Kept (footG gg gt gr v) w w'):RvIn w' B r gj gg gt gr gm v' ov {x with S:=S',n:=n'}:=
 ⟨(k.block r (Blk.lt h.box) h.r_off.2.1).trans h.box,(k.block gj (Blk.lt h.jn) h.j_off.1).trans h.jn,hg,(k.block gm (Blk.lt h.m) h.m_off.1).trans h.m,FrA.own_kept h.out k (fun _ hi=>h.o_off hi),h.rb,h.jb,h.mb⟩
theorem RvIn.m_step {m':Aw.M} (h:RvIn w B r gj gg gt gr gm v ov x) (t:AwB.Turned w w' gm m'):RvIn w' B r gj gg gt gr gm v ov {x with m:=m'}:=by
 have k:Kept (fun i=>i=gm) w w':=kept_grown t.only (fun r e=>by injection e with e;exact e.symm);exact⟨(k.block r (Blk.lt h.box) (fun e=>h.r_off.2.2.1 e.symm)).trans h.box,(k.block gj (Blk.lt h.jn) (fun e=>h.j_off.2.1 e.symm)).trans h.jn,ga_kept h.ga k (fun _ hi e=>h.m_off.1 (e▸hi)),t.at_,FrA.own_kept h.out k (fun _ hi e=>h.m_off.2 (e▸hi)),h.rb,h.jb,h.mb⟩
theorem RvIn.j_step {j':Jn} (h:RvIn w B r gj gg gt gr gm v ov x) (t:JnOk w w' gj j'):RvIn w' B r gj gg gt gr gm v ov {x with j:=j'}:=
 ⟨(t.k.block r (Blk.lt h.box) (fun e=>h.r_off.1 e.symm)).trans h.box,t.j,ga_kept h.ga t.k (fun _ hi e=>h.j_off.1 (e▸hi)),(t.k.block gm (Blk.lt h.m) (fun e=>h.j_off.2.1 e)).trans h.m,FrA.own_kept h.out t.k (fun _ hi e=>h.j_off.2.2 (e▸hi)),h.rb,h.jb,h.mb⟩
theorem RvIn.box_step {y:Rv} (h:RvIn w B r gj gg gt gr gm v ov x) (hb:Blk w' r 82 (rcV y gj gg gm ov)) (k:Kept (fun i=>i=r) w w') (e1:y.j=x.j) (e2:y.S=x.S) (e3:y.mac=x.mac) (e4:y.n=x.n) (e5:y.m=x.m) (e6:y.out=x.out):RvIn w' B r gj gg gt gr gm v ov y:=
 ⟨hb,by rw[e1];exact(k.block gj (Blk.lt h.jn) h.r_off.1).trans h.jn,by rw[e2,e3,e4];exact ga_kept h.ga k (fun _ hi e=>h.r_off.2.1 (e▸hi)),by rw[e5];exact(k.block gm (Blk.lt h.m) h.r_off.2.2.1).trans h.m,by rw[e6];exact FrA.own_kept h.out k (fun _ hi e=>h.r_off.2.2.2 (e▸hi)),h.rb,h.jb,h.mb⟩
theorem RvIn.out_step {w1:World} {O1:List ByteArray} (h:RvIn w B r gj gg gt gr gm v ov x) (hg:w.grownBy w1 ov.ownBlock) (ho:w1.ownsRow B 9 1 ov' O1.length (flat enS O1)) (hat:ov'.ownBlock=ov.ownBlock∨ov'.ownBlock=some w.heap.size) (k:Kept (fun i=>i=r) w1 w') (hb:Blk w' r 82 (rcV x gj gg gm ov')):
 RvIn w' B r gj gg gt gr gm v ov' {x with out:=O1}∧Kept (footR r gj gg gt gr gm v ov) w w'∧far w ov ov':=by
 have k1:Kept (fun i=>i=r∨ov.ownBlock=some i) w w':=(kept_grown (F:=fun i=>i=r∨ov.ownBlock=some i) hg (fun _ e=>Or.inr e)).trans k (fun _ _ e=>Or.inl e);have hlt:=Blk.lt h.box;refine⟨⟨hb,(k1.block gj (Blk.lt h.jn) (fun e=>e.elim h.r_off.1 h.j_off.2.2)).trans h.jn,ga_kept h.ga k1 (fun i hi e=>e.elim (fun e=>h.r_off.2.1 (e▸hi)) (fun e=>h.o_off e hi)),(k1.block gm (Blk.lt h.m) (fun e=>e.elim h.r_off.2.2.1 h.m_off.2)).trans h.m,?_,h.rb,h.jb,h.mb⟩,k1.mono (fun i _ e=>e.elim Or.inl (fun e=>Or.inr (Or.inr (Or.inr (Or.inr e))))),?_⟩
 ·refine FrA.own_kept ho k (fun i hi e=>?_)
  subst e;rcases hat with e|e
  ·exact h.r_off.2.2.2 (e▸hi)
  ·rw[e]at hi;injection hi with hi;omega
 ·rcases hat with e|e
  ·exact Or.inl e
  ·exact Or.inr ⟨_,e,Nat.le_refl _⟩
end
set_option maxRecDepth 100000
set_option maxHeartbeats 3200000 in
theorem rend_any (w:World) (B r gj gg gt gr gm:Nat) (v ov:Value) (x:Rv) (C:Nat→List UInt8) (h:RvIn w B r gj gg gt gr gm v ov x) (hok:Ok x.S) (hC: ∀q,q<x.S.R→RowOf x.S q (C q)) (h1:x.frames≤1000000000) (h2:x.failed≤1000000000) (h3:x.out.length≤1000000):
 Calls Tryz.prog 41 #[.pointer (some ⟨r,0,none⟩)] w fun e w'=>e= .returned (.tuple #[])∧ ∃ov',RvIn w' B r gj gg gt gr gm (.slice none 0 0) ov' (x.endR C)∧Kept (footR r gj gg gt gr gm v ov) w w'∧far w ov ov':=by
 have ke:=BuT.end_any w B gg gt gr v x.S C x.mac x.n h.ga hok hC;have hlen:=txL_len hok C;have HI:=Lib.hid h;obtain⟨al,j,S,mac,n,m,sec,wrong,fr,fa,out⟩:=x;dsimp only at ke hlen h1 h2 h3 HI;unfold Rv.endR;dsimp only;obtain⟨N,hN⟩: ∃N,(outAt (mdS S C S.R) 0).length=N:=⟨_,rfl⟩
 have ke2:Calls Tryz.prog 39 #[.pointer (some ⟨gg,0,none⟩)] w fun e w'=> ∃oa oc,e= .returned (.tuple #[.slice oa N oc,.int .i64 (cntM S S.R:Nat),.int .i64 (cntF S S.R:Nat)])∧w'.ownsRow w.heap.size 101 2 (.slice oa N oc) N (flat (enPl (mdS S C S.R)) (outAt (mdS S C S.R) 0))∧GaA w' B gg gt gr (.slice none 0 0) (emptyT S.R) mac 0∧Kept (footG gg gt gr v) w w':=ke.mono (fun e w' h=>by
  obtain⟨o,h1,h2⟩:=h.out;obtain⟨oa,oc,rfl⟩:=own_form h2;rw[hN]at h1 h2;exact⟨oa,oc,h1,h2,h.ga,h.k⟩)
 obtain⟨TX,hTX⟩: ∃T,txL S C=T:=⟨_,rfl⟩;rw[hTX]at hlen ⊢;unfold txL at hTX;obtain⟨LL,hLL⟩: ∃L,outAt (mdS S C S.R) 0=L:=⟨_,rfl⟩;obtain⟨S2,hS2⟩: ∃T,mdS S C S.R=T:=⟨_,rfl⟩;rw[hLL]at ke2 hN hTX;rw[hS2]at ke2 hTX;have HN:=Lib.hid (show LL.length=N∧TX=LL.map (fun z=>str (bytesL S2 z.1 z.2))∧(out.length≤1000000∧TX.length≤195584)from⟨hN,hTX.symm,h3,hlen⟩);have hN8:N≤195584:=by rw[←hN];rw[←hTX,List.length_map]at hlen;exact hlen
 obtain⟨cm,hcm⟩: ∃c,cntM S S.R=c:=⟨_,rfl⟩;obtain⟨cf,hcf⟩: ∃c,cntF S S.R=c:=⟨_,rfl⟩;rw[hcm,hcf]at ke2;rw[hcf];have HFB:=Lib.hid (And.intro (fun h:0<cf=>(if_pos h:(if 0<cf then fa+1 else fa)=fa+1)) (fun h: ¬0<cf=>(if_neg h:(if 0<cf then fa+1 else fa)=fa)));obtain⟨fb,hfb⟩: ∃fb,(if 0<cf then fa+1 else fa)=fb:=⟨_,rfl⟩;rw[hfb]at HFB ⊢;have c2:=Blk.cell HI.out.box 2 (v:= .pointer (some ⟨gg,0,none⟩)) rfl;have f0:(0:Int)≤(fr:Int):=Int.natCast_nonneg _;have f1:(0:Int)≤(fa:Int):=Int.natCast_nonneg _;have f2:(fr:Int)≤1000000000:=by omega
 have f3:(fa:Int)≤1000000000:=by omega
 have f4:(0:Int)≤(cf:Int):=Int.natCast_nonneg _;have HFT:=Lib.hid (show ∀i,footG gg gt gr (.slice none 0 0) i→footG gg gt gr v i∨w.heap.size≤i from fun i e=>e.elim (fun e=>Or.inl (Or.inl e)) (fun e=>e.elim (fun e=>Or.inl (Or.inr (Or.inl e))) (fun e=>e.elim (fun e=>Or.inl (Or.inr (Or.inr (Or.inl e)))) (fun e=>by cases e))));clear ke h hok hC hlen hN hTX hLL hS2 hcm hcf hfb h1 h2 h3
 go_enter Tryz.func41,Tryz.ntmps41
 go_wp2_with fail
 (with_reducible refine(ke2).mono ?_);rintro e1 W1 ⟨oa,oc,rfl,ho,hga,hk⟩
 have hV1:RvIn W1 B r gj gg gt gr gm (.slice none 0 0) ov ⟨al,j,emptyT S.R,mac,0,m,sec,wrong,fr,fa,out⟩:=HI.out.ga_step hga hk;have HK1:=Lib.hid (hk.mono (F:=footR r gj gg gt gr gm v ov) (fun i _ e=>Or.inr (Or.inr (Or.inl e))));have HO1:=Lib.hid ho;have HV1:=Lib.hid hV1;have hb1:Blk W1 r 82 #[.bool al,.pointer (some ⟨gj,0,none⟩),.pointer (some ⟨gg,0,none⟩),.pointer (some ⟨gm,0,none⟩),.int .i64 (sec:Int),.int .i64 (wrong:Int),.int .i64 (fr:Int),.int .i64 (fa:Int),.int .i64 0,.int .i64 0,.int .i64 0,.int .i64 0,.int .i64 0,.int .i64 0,.int .i64 0,.int .i64 0,ov]:=hV1.box;have d6:=Blk.cell hb1 6 (v:= .int .i64 (fr:Int)) rfl;have g6:=Blk.frozen hb1 6;have d7:=Blk.cell hb1 7 (v:= .int .i64 (fa:Int)) rfl;have g7:=Blk.frozen hb1 7;have hb2:=Blk.set_ hb1 6 (.int .i64 ((fr:Int)+1));have d7':=Blk.cell hb2 7 (v:= .int .i64 (fa:Int)) rfl;have g7':=Blk.frozen hb2 7;have hb3:=Blk.set_ hb2 7 (.int .i64 ((fa:Int)+1));have k6:=kept_set (F:=fun i=>i=r) (a:=W1) (p:=⟨r,6,none⟩) (u:= .int .i64 ((fr:Int)+1)) rfl;have k7:=kept_set (F:=fun i=>i=r) (a:=W1.setCell ⟨r,6,none⟩ (.int .i64 ((fr:Int)+1))) (p:=⟨r,7,none⟩) (u:= .int .i64 ((fa:Int)+1)) rfl;clear ke2 c2 ho hga hk HI;by_cases hcf:0<cf
 ·have t1:decide ((0:Int)<(cf:Int))=true:=decide_eq_true (by omega)
  have t1':decide (0<cf)=true:=decide_eq_true hcf;obtain rfl:fb=fa+1:=HFB.out.1 hcf;have HV2:=Lib.hid (hV1.box_step (y:=⟨al,j,emptyT S.R,mac,0,m,sec,wrong,fr+1,fa+1,out⟩) hb3 (k6.trans k7 (fun _ _ e=>e)) rfl rfl rfl rfl rfl rfl);have HK2:=Lib.hid (HK1.out.trans (k6.trans k7 (fun _ _ e=>e)) (fun i _ e=>Or.inl e));have HO2:=Lib.hid (FrA.own_kept HO1.out (k6.trans k7 (fun _ _ e=>e)) (fun i hi e=>by have h1:=tyb_own HO1.out hi;rw[e]at h1;exact absurd (h1.uniq (tyb_blk hb1)) (by decide)));clear hV1 hb1 hb2 hb3 k6 k7 hcf HK1 HO1 HV1
  go_wp2_with fail
  go_loopw [38] (fun iv W=> ∃(k:Nat) (ov':Value),k≤N∧iv= .int .i64 k∧Hid (RvIn W B r gj gg gt gr gm (.slice none 0 0) ov' {(Rv.mk al j (emptyT S.R) mac 0 m sec wrong (fr+1) (fa+1) out)with out:=out++TX.take k})∧Hid (Kept (footR r gj gg gt gr gm v ov) w W)∧Hid (far w ov ov')∧Hid (W.ownsRow w.heap.size 101 2 (.slice oa N oc) N (flat (enPl S2) LL))) (fun iv _=>N-(intOf iv).toNat)
  case atStart=>exact⟨0,ov,by omega,rfl,Lib.hid (by rw[List.take_zero,List.append_nil];exact HV2.out),HK2,Lib.hid (Or.inl rfl),HO2⟩
  case round=>
   clear HV2 HK2 HO2;obtain⟨k,ov',hk,rfl,HV,HK,HF,HO⟩:=hrel;have k0:(0:Int)≤(k:Int):=Int.natCast_nonneg _;by_cases hkn:k<N
   ·have t3:decide ((k:Int)<(N:Int))=true:=decide_eq_true (by omega)
    have t3':decide (k<N)=true:=decide_eq_true hkn;have k1:(k:Int)<(N:Int):=by omega
    obtain⟨z,hz⟩: ∃z,LL[k]? =some z:=⟨_,List.getElem?_eq_getElem (by rw[HN.out.1];exact hkn)⟩;obtain⟨b1,o1,rfl,hlt1,hc1⟩:=(own_seq (en:=enPl S2) (fun _=>rfl) HO.out HN.out.1) k z hz;rw[off_eq]at hc1;have q0:wr.cell? ⟨b1,o1+k*2,none⟩=some (.int .i64 (z.1:Int)):=hc1 0 (.int .i64 (z.1:Int)) rfl;have q1:=hc1 1 (.string (str (bytesL S2 z.1 z.2))) rfl;obtain⟨O,hO⟩: ∃O,out++TX.take k=O:=⟨_,rfl⟩;have HTX:=Lib.hid (show out++TX.take (k+1)=O++[str (bytesL S2 z.1 z.2)]from by rw[List.take_add_one,HN.out.2.1,List.getElem?_map,hz,←hO,HN.out.2.1,List.append_assoc];rfl);obtain⟨X,hX⟩: ∃X,str (bytesL S2 z.1 z.2)=X:=⟨_,rfl⟩;rw[hX]at q1 HTX;have hL9:O.length≤2000000:=by rw[←hO,List.length_append,List.length_take];have:=HN.out.2.2;omega
    rw[hO]at HV;obtain⟨oa',oc',rfl⟩:=own_form HV.out.out;have HVq:Hid (RvIn wr B r gj gg gt gr gm (.slice none 0 0) (.slice oa' O.length oc') {(Rv.mk al j (emptyT S.R) mac 0 m sec wrong (fr+1) (fa+1) out)with out:=O}):=HV;obtain⟨no,hno⟩: ∃n,O.length=n:=⟨_,rfl⟩;have HFq:Hid (far w ov (.slice oa' O.length oc')):=HF;rw[hno]at HVq hL9 HFq;have HNO:=Lib.hid hno;have hbA:=(Below.refl wr.heap.size wr).alloc (Nat.le_refl _) (.cells #[.int .i64 (z.1:Int),.string X] 101);have HV9:=Lib.hid (HVq.out.below hbA);have HK9:=Lib.hid (HK.out.then (hbA.mono HK.out.size));have HO9:=Lib.hid (own_below HO.out hbA);have HSZ:=Lib.hid (show w.heap.size≤wr.heap.size from HK.out.size);have p16:=fun q=>Blk.cell (blk_ext HV9.out.box q) 16 (v:= .slice oa' no oc') rfl;have px:=fun q=>Blk.cell (blk_ext (Blk.new wr 101 #[.int .i64 (z.1:Int),.string X]) q) 1 (v:= .string X) rfl
    have hzB:(wr.alloc (.cells #[.int .i64 (z.1:Int),.string X] 101)).ownsRow B 9 1 (.slice oa' no oc') no (flat enS O):=by
     have h9:(wr.alloc (.cells #[.int .i64 (z.1:Int),.string X] 101)).ownsRow B 9 1 (.slice oa' no oc') O.length (flat enS O):=HV9.out.out
     rwa [hno]at h9
    have hszB:B≤(wr.alloc (.cells #[.int .i64 (z.1:Int),.string X] 101)).heap.size:=Nat.le_trans HV9.out.rb (Nat.le_of_lt (Blk.lt HV9.out.box));clear hc1 hz hlt1 hX HV HK HF HO HVq hO hno
    go_wp2_with fail
    refine Go.Proofs.YtdbpkhnmhddmmaaGreatDoor.RgY.region_y [(2,val (.pointer (some ⟨r,0,none⟩))),(7,newS 1 9 #[.string X] 0)] 8 0 4 (by kernel_rfl) (by kernel_rfl) (by kernel_rfl) (by kernel_rfl) (lk_cons val_inh (lk_cons newS_inh lk_nil)) (lk_cons val_mono (lk_cons newS_mono lk_nil)) (fun _ d _ _ _ h=>by cases d<;>exact h) ?_;intro σ hσ;simp only[List.take_succ_cons,List.take_zero,List.drop_succ_cons,List.drop_zero];have hσ2:σ 2= .pointer (some ⟨r,0,none⟩):=hσ 2 _ rfl;refine wpN_nil ?_;refine⟨_,.pointer (some ⟨r,0,none⟩),rfl,Or.inl ⟨by kernel_rfl,fun w=>by go_simp⟩,rfl,?_⟩;simp only[Act.put,List.setIfInBounds_toArray,List.set_cons_zero,List.set_cons_succ];refine Go.Proofs.YtdbpkhnmhddmmaaGreatDoor.Rg.wpN_take 1 (by kernel_rfl) (by kernel_rfl) (by kernel_rfl) ?_;simp only[List.take_succ_cons,List.take_zero,List.drop_succ_cons,List.drop_zero]
    repeat (go_big_quiet_step (fail))
    refine wpQuiet_nil ?_;refine Go.Proofs.YtdbpkhnmhddmmaaGreatDoor.Rg.wpN_sp _ rfl (by kernel_rfl) (spAt_read (fun p hd=>?_)) ?_
    ·go_simp
    simp only[Act.put,List.setIfInBounds_toArray,List.set_cons_zero,List.set_cons_succ];rw[hσ2];refine Go.Proofs.YtdbpkhnmhddmmaaGreatDoor.Rg.wpN_take 4 (by kernel_rfl) (by kernel_rfl) (by kernel_rfl) ?_;simp only[List.take_succ_cons,List.take_zero,List.drop_succ_cons,List.drop_zero]
    repeat (go_big_quiet_step (fail))
    refine wpQuiet_nil ?_;refine Go.Proofs.YtdbpkhnmhddmmaaGreatDoor.Rg.wpN_sp _ rfl (by kernel_rfl) (spAt_newS 1 9 #[.string X] (Nat.zero_le _) (by intro w0;go_simp)) ?_;simp only[Act.put,List.setIfInBounds_toArray,List.set_cons_zero,List.set_cons_succ];refine Go.Proofs.YtdbpkhnmhddmmaaGreatDoor.Rg.wpN_nil ?_;rintro w9 ⟨pq,rfl⟩ hp;obtain⟨g9,hg9,_,hb9⟩:=hp 7 _ rfl;rw[hg9];clear hp hσ;refine Go.Proofs.YtdbpkhnmhddmmaaGreatDoor.RgA.wpAny_seq 8 (by kernel_rfl) (by kernel_rfl) ?_;simp only[List.drop_succ_cons,List.drop_zero];have hbe:=below_ext (wr.alloc (.cells #[.int .i64 (z.1:Int),.string X] 101)) pq;have hown0:=own_below hzB hbe;refine ApG.wpList_appG rfl _ _ rfl elemS rfl hown0 rfl rfl (blk_news hb9) (by simp[Value.oneCell']) (by omega) (by unfold maxLen;omega) (Nat.le_trans hszB hbe.size) ?_;intro v9 W8 hown9 hgr9 hat9;obtain⟨av,cv,rfl⟩:=own_form hown9;have HVe:=Lib.hid (HV9.out.below hbe);have c0:Blk W8 r 82 #[.bool al,.pointer (some ⟨gj,0,none⟩),.pointer (some ⟨gg,0,none⟩),.pointer (some ⟨gm,0,none⟩),.int .i64 (sec:Int),.int .i64 (wrong:Int),.int .i64 ((fr+1:Nat):Int),.int .i64 ((fa+1:Nat):Int),.int .i64 0,.int .i64 0,.int .i64 0,.int .i64 0,.int .i64 0,.int .i64 0,.int .i64 0,.int .i64 0,.slice oa' no oc']:=(hgr9.block r (Blk.lt HVe.out.box) (fun e=>HVe.out.r_off.2.2.2 e.symm)).trans HVe.out.box;have s16:=Blk.cell c0 16 (v:= .slice oa' no oc') rfl;have s16':=Blk.frozen c0 16;have c1:=Blk.set_ c0 16 (.slice av (no+1) cv)
    have hO1:W8.ownsRow B 9 1 (.slice av (no+1) cv) (O++[X]).length (flat enS (O++[X])):=by
     rw[flat_app,List.length_append,HNO.out];exact hown9
    obtain⟨hs1,hs2,hs3⟩:=HVe.out.out_step (w':=W8.setCell ⟨r,16,none⟩ (.slice av (no+1) cv)) hgr9 hO1 hat9 (kept_set (F:=fun i=>i=r) rfl) c1;have HV2:=Lib.hid hs1;have HK2:=Lib.hid ((HK9.out.then (hbe.mono HK9.out.size)).trans hs2 (fun i hi e=>footR_far HFq.out hi e (fun i e=>HFT.out i e)));have HF2:=Lib.hid (far_trans HFq.out (hs3:far _ _ _) (Nat.le_trans HK9.out.size hbe.size));have HO2:=Lib.hid (FrA.own_kept (own_below HO9.out hbe) hs2 (fun i hi=>HVe.out.off (tyb_own (own_below HO9.out hbe) hi) (by decide) (by decide) (by decide) (by decide) (by decide) (by decide) (by decide) (by decide)));clear hown0 hown9 hgr9 hat9 hb9 hg9 hbe hzB hszB c0 c1 hO1 hs1 hs2 hs3 HVe HV9 HK9 HO9 HFq p16 px hbA
    go_wp2_with fail
    go_roundw
    case rel=>exact⟨k+1,.slice av (no+1) cv,by omega,by go_num,Lib.hid (by rw[HTX.out];exact HV2.out),HK2,HF2,HO2⟩
    case measure=>simp[intOf];omega
   ·obtain rfl:N=k:=by omega
    have t3:decide ((N:Int)<(N:Int))=false:=decide_eq_false (by omega);have t3':decide (N<N)=false:=decide_eq_false (by omega);have HE:=Lib.hid (show TX.take N=TX from List.take_of_length_le (by rw[HN.out.2.1,List.length_map,HN.out.1];exact Nat.le_refl _))
    go_wp2_with fail
    go_end0
    exact⟨rfl,ov',by rw[←HE.out];exact HV.out,HK.out,HF.out⟩
 ·have t1:decide ((0:Int)<(cf:Int))=false:=decide_eq_false (by omega)
  have t1':decide (0<cf)=false:=decide_eq_false hcf;obtain rfl:fa=fb:=(HFB.out.2 hcf).symm;have HV2:=Lib.hid (hV1.box_step (y:=⟨al,j,emptyT S.R,mac,0,m,sec,wrong,fr+1,fa,out⟩) hb2 k6 rfl rfl rfl rfl rfl rfl);have HK2:=Lib.hid (HK1.out.trans k6 (fun i _ e=>Or.inl e));have HO2:=Lib.hid (FrA.own_kept HO1.out k6 (fun i hi e=>by have h1:=tyb_own HO1.out hi;rw[e]at h1;exact absurd (h1.uniq (tyb_blk hb1)) (by decide)));clear hV1 hb1 hb2 hb3 k6 k7 hcf HK1 HO1 HV1
  go_wp2_with fail
  go_loopw [38] (fun iv W=> ∃(k:Nat) (ov':Value),k≤N∧iv= .int .i64 k∧Hid (RvIn W B r gj gg gt gr gm (.slice none 0 0) ov' {(Rv.mk al j (emptyT S.R) mac 0 m sec wrong (fr+1) fa out)with out:=out++TX.take k})∧Hid (Kept (footR r gj gg gt gr gm v ov) w W)∧Hid (far w ov ov')∧Hid (W.ownsRow w.heap.size 101 2 (.slice oa N oc) N (flat (enPl S2) LL))) (fun iv _=>N-(intOf iv).toNat)
  case atStart=>exact⟨0,ov,by omega,rfl,Lib.hid (by rw[List.take_zero,List.append_nil];exact HV2.out),HK2,Lib.hid (Or.inl rfl),HO2⟩
  case round=>
   clear HV2 HK2 HO2;obtain⟨k,ov',hk,rfl,HV,HK,HF,HO⟩:=hrel;have k0:(0:Int)≤(k:Int):=Int.natCast_nonneg _;by_cases hkn:k<N
   ·have t3:decide ((k:Int)<(N:Int))=true:=decide_eq_true (by omega)
    have t3':decide (k<N)=true:=decide_eq_true hkn;have k1:(k:Int)<(N:Int):=by omega
    obtain⟨z,hz⟩: ∃z,LL[k]? =some z:=⟨_,List.getElem?_eq_getElem (by rw[HN.out.1];exact hkn)⟩;obtain⟨b1,o1,rfl,hlt1,hc1⟩:=(own_seq (en:=enPl S2) (fun _=>rfl) HO.out HN.out.1) k z hz;rw[off_eq]at hc1;have q0:wr.cell? ⟨b1,o1+k*2,none⟩=some (.int .i64 (z.1:Int)):=hc1 0 (.int .i64 (z.1:Int)) rfl;have q1:=hc1 1 (.string (str (bytesL S2 z.1 z.2))) rfl;obtain⟨O,hO⟩: ∃O,out++TX.take k=O:=⟨_,rfl⟩;have HTX:=Lib.hid (show out++TX.take (k+1)=O++[str (bytesL S2 z.1 z.2)]from by rw[List.take_add_one,HN.out.2.1,List.getElem?_map,hz,←hO,HN.out.2.1,List.append_assoc];rfl);obtain⟨X,hX⟩: ∃X,str (bytesL S2 z.1 z.2)=X:=⟨_,rfl⟩;rw[hX]at q1 HTX;have hL9:O.length≤2000000:=by rw[←hO,List.length_append,List.length_take];have:=HN.out.2.2;omega
    rw[hO]at HV;obtain⟨oa',oc',rfl⟩:=own_form HV.out.out;have HVq:Hid (RvIn wr B r gj gg gt gr gm (.slice none 0 0) (.slice oa' O.length oc') {(Rv.mk al j (emptyT S.R) mac 0 m sec wrong (fr+1) fa out)with out:=O}):=HV;obtain⟨no,hno⟩: ∃n,O.length=n:=⟨_,rfl⟩;have HFq:Hid (far w ov (.slice oa' O.length oc')):=HF;rw[hno]at HVq hL9 HFq;have HNO:=Lib.hid hno;have hbA:=(Below.refl wr.heap.size wr).alloc (Nat.le_refl _) (.cells #[.int .i64 (z.1:Int),.string X] 101);have HV9:=Lib.hid (HVq.out.below hbA);have HK9:=Lib.hid (HK.out.then (hbA.mono HK.out.size));have HO9:=Lib.hid (own_below HO.out hbA);have HSZ:=Lib.hid (show w.heap.size≤wr.heap.size from HK.out.size);have p16:=fun q=>Blk.cell (blk_ext HV9.out.box q) 16 (v:= .slice oa' no oc') rfl;have px:=fun q=>Blk.cell (blk_ext (Blk.new wr 101 #[.int .i64 (z.1:Int),.string X]) q) 1 (v:= .string X) rfl
    have hzB:(wr.alloc (.cells #[.int .i64 (z.1:Int),.string X] 101)).ownsRow B 9 1 (.slice oa' no oc') no (flat enS O):=by
     have h9:(wr.alloc (.cells #[.int .i64 (z.1:Int),.string X] 101)).ownsRow B 9 1 (.slice oa' no oc') O.length (flat enS O):=HV9.out.out
     rwa [hno]at h9
    have hszB:B≤(wr.alloc (.cells #[.int .i64 (z.1:Int),.string X] 101)).heap.size:=Nat.le_trans HV9.out.rb (Nat.le_of_lt (Blk.lt HV9.out.box));clear hc1 hz hlt1 hX HV HK HF HO HVq hO hno
    go_wp2_with fail
    refine Go.Proofs.YtdbpkhnmhddmmaaGreatDoor.RgY.region_y [(2,val (.pointer (some ⟨r,0,none⟩))),(7,newS 1 9 #[.string X] 0)] 8 0 4 (by kernel_rfl) (by kernel_rfl) (by kernel_rfl) (by kernel_rfl) (lk_cons val_inh (lk_cons newS_inh lk_nil)) (lk_cons val_mono (lk_cons newS_mono lk_nil)) (fun _ d _ _ _ h=>by cases d<;>exact h) ?_;intro σ hσ;simp only[List.take_succ_cons,List.take_zero,List.drop_succ_cons,List.drop_zero];have hσ2:σ 2= .pointer (some ⟨r,0,none⟩):=hσ 2 _ rfl;refine wpN_nil ?_;refine⟨_,.pointer (some ⟨r,0,none⟩),rfl,Or.inl ⟨by kernel_rfl,fun w=>by go_simp⟩,rfl,?_⟩;simp only[Act.put,List.setIfInBounds_toArray,List.set_cons_zero,List.set_cons_succ];refine Go.Proofs.YtdbpkhnmhddmmaaGreatDoor.Rg.wpN_take 1 (by kernel_rfl) (by kernel_rfl) (by kernel_rfl) ?_;simp only[List.take_succ_cons,List.take_zero,List.drop_succ_cons,List.drop_zero]
    repeat (go_big_quiet_step (fail))
    refine wpQuiet_nil ?_;refine Go.Proofs.YtdbpkhnmhddmmaaGreatDoor.Rg.wpN_sp _ rfl (by kernel_rfl) (spAt_read (fun p hd=>?_)) ?_
    ·go_simp
    simp only[Act.put,List.setIfInBounds_toArray,List.set_cons_zero,List.set_cons_succ];rw[hσ2];refine Go.Proofs.YtdbpkhnmhddmmaaGreatDoor.Rg.wpN_take 4 (by kernel_rfl) (by kernel_rfl) (by kernel_rfl) ?_;simp only[List.take_succ_cons,List.take_zero,List.drop_succ_cons,List.drop_zero]
    repeat (go_big_quiet_step (fail))
    refine wpQuiet_nil ?_;refine Go.Proofs.YtdbpkhnmhddmmaaGreatDoor.Rg.wpN_sp _ rfl (by kernel_rfl) (spAt_newS 1 9 #[.string X] (Nat.zero_le _) (by intro w0;go_simp)) ?_;simp only[Act.put,List.setIfInBounds_toArray,List.set_cons_zero,List.set_cons_succ];refine Go.Proofs.YtdbpkhnmhddmmaaGreatDoor.Rg.wpN_nil ?_;rintro w9 ⟨pq,rfl⟩ hp;obtain⟨g9,hg9,_,hb9⟩:=hp 7 _ rfl;rw[hg9];clear hp hσ;refine Go.Proofs.YtdbpkhnmhddmmaaGreatDoor.RgA.wpAny_seq 8 (by kernel_rfl) (by kernel_rfl) ?_;simp only[List.drop_succ_cons,List.drop_zero];have hbe:=below_ext (wr.alloc (.cells #[.int .i64 (z.1:Int),.string X] 101)) pq;have hown0:=own_below hzB hbe;refine ApG.wpList_appG rfl _ _ rfl elemS rfl hown0 rfl rfl (blk_news hb9) (by simp[Value.oneCell']) (by omega) (by unfold maxLen;omega) (Nat.le_trans hszB hbe.size) ?_;intro v9 W8 hown9 hgr9 hat9;obtain⟨av,cv,rfl⟩:=own_form hown9;have HVe:=Lib.hid (HV9.out.below hbe);have c0:Blk W8 r 82 #[.bool al,.pointer (some ⟨gj,0,none⟩),.pointer (some ⟨gg,0,none⟩),.pointer (some ⟨gm,0,none⟩),.int .i64 (sec:Int),.int .i64 (wrong:Int),.int .i64 ((fr+1:Nat):Int),.int .i64 (fa:Int),.int .i64 0,.int .i64 0,.int .i64 0,.int .i64 0,.int .i64 0,.int .i64 0,.int .i64 0,.int .i64 0,.slice oa' no oc']:=(hgr9.block r (Blk.lt HVe.out.box) (fun e=>HVe.out.r_off.2.2.2 e.symm)).trans HVe.out.box;have s16:=Blk.cell c0 16 (v:= .slice oa' no oc') rfl;have s16':=Blk.frozen c0 16;have c1:=Blk.set_ c0 16 (.slice av (no+1) cv)
    have hO1:W8.ownsRow B 9 1 (.slice av (no+1) cv) (O++[X]).length (flat enS (O++[X])):=by
     rw[flat_app,List.length_append,HNO.out];exact hown9
    obtain⟨hs1,hs2,hs3⟩:=HVe.out.out_step (w':=W8.setCell ⟨r,16,none⟩ (.slice av (no+1) cv)) hgr9 hO1 hat9 (kept_set (F:=fun i=>i=r) rfl) c1;have HV2:=Lib.hid hs1;have HK2:=Lib.hid ((HK9.out.then (hbe.mono HK9.out.size)).trans hs2 (fun i hi e=>footR_far HFq.out hi e (fun i e=>HFT.out i e)));have HF2:=Lib.hid (far_trans HFq.out (hs3:far _ _ _) (Nat.le_trans HK9.out.size hbe.size));have HO2:=Lib.hid (FrA.own_kept (own_below HO9.out hbe) hs2 (fun i hi=>HVe.out.off (tyb_own (own_below HO9.out hbe) hi) (by decide) (by decide) (by decide) (by decide) (by decide) (by decide) (by decide) (by decide)));clear hown0 hown9 hgr9 hat9 hb9 hg9 hbe hzB hszB c0 c1 hO1 hs1 hs2 hs3 HVe HV9 HK9 HO9 HFq p16 px hbA
    go_wp2_with fail
    go_roundw
    case rel=>exact⟨k+1,.slice av (no+1) cv,by omega,by go_num,Lib.hid (by rw[HTX.out];exact HV2.out),HK2,HF2,HO2⟩
    case measure=>simp[intOf];omega
   ·obtain rfl:N=k:=by omega
    have t3:decide ((N:Int)<(N:Int))=false:=decide_eq_false (by omega);have t3':decide (N<N)=false:=decide_eq_false (by omega);have HE:=Lib.hid (show TX.take N=TX from List.take_of_length_le (by rw[HN.out.2.1,List.length_map,HN.out.1];exact Nat.le_refl _))
    go_wp2_with fail
    go_end0
    exact⟨rfl,ov',by rw[←HE.out];exact HV.out,HK.out,HF.out⟩
end Go.Proofs.YtdbpkhnmhddmmaaGreatDoor.RcA
