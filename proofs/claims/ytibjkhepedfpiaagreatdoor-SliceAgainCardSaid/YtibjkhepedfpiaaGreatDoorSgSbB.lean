import Derived.Test.YtibjkhepedfpiaaGreatDoorSgSbA
namespace Go.Proofs.YtibjkhepedfpiaaGreatDoor.SbB
open Go Go.RowKit Q Mem Rg Ap ApG St CrB Tab TmA PaP PaK SlM SlP SlR SlS SlW SlX PkL BuA BuB BuF StP StA LyA SbP SbA
structure StmG (u:Int) (L:List Br) (n:Nat) (w:World) (e:Ending) (w':World):Prop where
 be:Below w.heap.size w w'
 bad:checkE 0 L≠0→e= .returned (.tuple #[.slice none 0 0,.int .i64 (checkE 0 L)])
 un:checkE 0 L=0→ ¬(1≤u∧u≤1048576)→e= .returned (.tuple #[.slice none 0 0,.int .i64 1])
 ok:checkE 0 L=0→(1≤u∧u≤1048576)→ ∃v D,e= .returned (.tuple #[v,.int .i64 0])∧D.map Bu.b=stpL u L∧w'.ownsRow w.heap.size 36 3 v n (flat enBu D)∧ ∀d∈D,BuOk w' d
structure InI (w0 W:World) (pid at_:Int) (sl vx:Value) (T:List ByteArray) (vs:Value) (E:List Int):Prop where
 b:Blk W w0.heap.size 36 #[.int .i64 pid,.int .i64 at_,sl]
 x:Blk W (w0.heap.size+1) 36 #[.int .i64 pid,.int .i64 at_,vx]
 o:W.ownsRow w0.heap.size 9 1 vx T.length (flat enS T)
 s:W.ownsRow w0.heap.size 3 1 vs E.length (flat en1 E)
 be:Below w0.heap.size w0 W
section
variable {w0 W w8:World} {pid at_:Int} {sl vx vs v9:Value} {T:List ByteArray} {E:List Int} {t:ByteArray}
theorem own_ne {w:World} {base n sz g:Nat} {e t:TypeId} {v:Value} {xs:List Value} {cs:Array Value} (h:w.ownsRow base e sz v n xs) (hg:Blk w g t cs) (ht:t≠e):v.ownBlock≠some g:=fun e1=>by
 rcases h.2 with⟨h1,_⟩|⟨r,cap,cur,e2,_,hr,_⟩
 ·rw[h1]at e1;simp[Value.ownBlock]at e1
 ·rw[e2]at e1
  simp[Value.ownBlock]at e1;subst e1;unfold Blk at hg;rw[hg]at hr;injection hr with hr
  injection hr with h2 h3 h4
  exact ht h3
theorem own_own {w:World} {B1 B2 n1 n2 z1 z2:Nat} {e1 e2:TypeId} {v1 v2:Value} {x1 x2:List Value} (h1:w.ownsRow B1 e1 z1 v1 n1 x1) (h2:w.ownsRow B2 e2 z2 v2 n2 x2) (hne:e1≠e2): ∀r,v1.ownBlock=some r→v2.ownBlock≠some r:=fun r hr hr2=>by
 rcases h1.2 with⟨h,_⟩|⟨g,cap,cur,e,_,hg,_⟩
 ·rw[h]at hr;simp[Value.ownBlock]at hr
 ·rcases h2.2 with⟨h,_⟩|⟨g',cap',cur',e',_,hg',_⟩
  ·rw[h]at hr2;simp[Value.ownBlock]at hr2
  ·rw[e]at hr;rw[e']at hr2
   simp[Value.ownBlock]at hr hr2;subst hr;subst hr2;rw[hg]at hg';injection hg' with hg'
   injection hg' with _ h3 _
   exact hne h3
theorem set_kept {W:World} {g j n sz B:Nat} {e:TypeId} {v x:Value} {xs:List Value} (h:W.ownsRow B e sz v n xs) (hv:v.ownBlock≠some g):(W.setCell ⟨g,j,none⟩ x).ownsRow B e sz v n xs:=
 h.kept (only_set (only_refl W (some g)) j x) (by cases ho:v.ownBlock with|none=>exact Or.inl rfl|some r=>exact Or.inr (fun e=>hv (ho.trans e)))
theorem InI.below (h:InI w0 W pid at_ sl vx T vs E) (hb:Below W.heap.size W w8):InI w0 w8 pid at_ sl vx T vs E:=
 ⟨Blk.below h.b hb h.b.lt,Blk.below h.x hb h.x.lt,own_below h.o hb,own_below h.s hb,h.be.trans (hb.mono h.be.size)⟩
theorem InI.push (h:InI w0 W pid at_ sl vx T vs E) (hg:W.grownBy w8 vx.ownBlock) (hown:w8.ownsRow w0.heap.size 9 1 v9 (T.length+1) (flat enS T++[.string t])):
 InI w0 (w8.setCell ⟨w0.heap.size+1,2,none⟩ v9) pid at_ sl v9 (T++[t]) vs E∧Blk w8 (w0.heap.size+1) 36 #[.int .i64 pid,.int .i64 at_,vx]:=by
 have nb:=own_ne h.o h.b (by decide);have nx:=own_ne h.o h.x (by decide);have hB:=Blk.grown h.b hg (fun e=>nb e.symm);have hX:=Blk.grown h.x hg (fun e=>nx e.symm);have hS:=own_other h.s hg (own_own h.o h.s (by decide));refine⟨⟨Blk.far hB (by simp) v9,Blk.set_ hX 2 v9,?_,set_kept hS (own_ne hS hX (by decide)),?_⟩,hX⟩
 ·have:=set_kept (j:=2) (x:=v9) hown (own_ne hown hX (by decide))
  simpa [flat,enS]using this
 ·exact(h.be.trans (below_of_only hg h.be.size (fun k hk=>(h.o.lt k hk).1))).setCell (p:=⟨w0.heap.size+1,2,none⟩) (by simp) v9
end
theorem elemS2:Elem Tryz.prog 34 9 1 16:=elem_of Tryz.underlying34 (z:= .string ByteArray.empty) (by kernel_rfl) rfl (by decide)
theorem zip_step {α β γ:Type} (f:α→β→γ) {l:List α} {m:List β} {q:Nat} {x:α} {y:β} (hx:l[q]? =some x) (hy:m[q]? =some y):List.zipWith f (l.take (q+1)) (m.take (q+1))=List.zipWith f (l.take q) (m.take q)++[f x y]:=by
 obtain⟨h1,h2⟩:=List.getElem?_eq_some_iff.1 hx;obtain⟨h3,h4⟩:=List.getElem?_eq_some_iff.1 hy;rw[List.take_add_one,List.take_add_one,hx,hy,List.zipWith_append (by rw[List.length_take,List.length_take];omega)];rfl
theorem stp_drop (u:Int): ∀(L:List Br) (q:Nat) {b:Br},L[q]? =some b→(stpL u L)[q]? =some (stB u b (L.drop (q+1)))
 |[],q,b,h=>by simp at h
 |a::t,0,b,h=>by
  injection h with h
  subst h;rfl
 |a::t,q+1,b,h=>by
  show(stpL u t)[q]? =_;exact stp_drop u t q h
theorem stp_len (u:Int): ∀L:List Br,(stpL u L).length=L.length
 |[]=>rfl
 |a::t=>by rw[stpL,List.length_cons,List.length_cons,stp_len u t]
theorem after_ge: ∀{L:List Br} {q:Nat} {b:Br} {e:Int},checkE e L=0→L[q]? =some b→ ∀y∈L.drop (q+1),b.at_+manyN b.S≤y.at_
 |[],q,b,e,_,h,_,_=>by simp at h
 |a::t,0,b,e,hc,h,y,hy=>by
  injection h with h
  subst h;obtain⟨h1,h2,h3,h4⟩:=checkE_cons hc;have em:(manyN a.S:Int)=nS a.S:=by unfold manyN nS;rw[if_pos h2]
  rw[em];exact((end_ge t _ h4).2 y hy).2
 |a::t,q+1,b,e,hc,h,y,hy=>after_ge (L:=t) (checkE_cons hc).2.2.2 h y hy
set_option maxRecDepth 100000
set_option maxHeartbeats 6400000 in
theorem stamp_any (u:Int) (a:Option Addr) (n c:Nat) (L:List Bu) (w:World) (hT:Tab 2 w) (hn:L.length=n) (hl:n≤100000) (hcap:n≤c) (hL:Seq enBu 3 w a L) (hok: ∀x∈L,BuOk w x) (hsm: ∀x∈L,Small x.b)
 (hd:checkE 0 (L.map Bu.b)=0→(1≤u∧u≤1048576)→Dom u (L.map Bu.b)):
 Calls Tryz.prog 11 #[.int .i64 u,.slice a n c] w (StmG u (L.map Bu.b) n w):=by
 obtain⟨R,hR⟩: ∃R:Ending→World→Prop,R=StmG u (L.map Bu.b) n w:=⟨_,rfl⟩;rw[←hR];have HR:=Lib.hid hR;clear hR;have kc:=check_any a n c L w hn hl hL hok hsm;obtain⟨CE,hCE⟩: ∃CE,checkE 0 (L.map Bu.b)=CE:=⟨_,rfl⟩;rw[hCE]at kc hd;have HCE:=Lib.hid hCE;have HL:=Lib.hid hL;have HN:=Lib.hid hn;have HO:=Lib.hid hok;have HSm:=Lib.hid hsm;have HT:=Lib.hid hT;clear hCE hL hn hok hsm hT;by_cases hce:CE=0
 ·subst hce
  by_cases hu:1≤u∧u≤1048576
  ·have HD:=Lib.hid (hd rfl hu)
   have kd:=fun V=>delta_any 0 0 u V hu (by decide) (by decide) (by decide)
   have hd0:dlD 0 0 u=0:=by
    unfold dlD;exact Int.ediv_eq_zero_of_lt (by omega) (by omega)
   rw[hd0]at kd;clear hd hd0
   go_enter Tryz.func11,Tryz.ntmps11
   go_wp2_with fail
   (with_reducible refine(kc).mono ?_);rintro e1 W1 ⟨rfl,hb1⟩
   clear kc
   go_wp2_with fail
   (with_reducible refine(kd _).mono ?_);rintro e2 W2 ⟨rfl,hb2⟩
   have hb3:=hb1.trans (hb2.mono hb1.size);clear kd hb1 hb2
   go_wp2_with fail
   go_loopw [9,37] (fun v iv wr=> ∃(q:Nat) (D:List Bu),q≤n∧iv= .int .i64 q∧Hid (D.map Bu.b=(stpL u (L.map Bu.b)).take q)∧Hid (Rws W2 wr 36 36 v (.slice none 0 0) D [])) (fun _ iv _=>n-(intOf iv).toNat)
   case atStart=>exact⟨0,[],by omega,rfl,Lib.hid rfl,Lib.hid (rows_nil _ _ _)⟩
   case round=>
    obtain⟨q,D,hq,rfl,HI,HRW⟩:=hrel
    have hDq:D.length=q:=by
     have:=congrArg List.length HI.out;rw[List.length_map,List.length_take,stp_len,List.length_map,HN.out]at this;omega
    by_cases hqn:q<n
    ·have t1:decide (q<n)=true:=decide_eq_true hqn
     obtain⟨wo,rfl⟩: ∃wo:World,wo=wr:=⟨_,rfl⟩;have hbr:=hb3.trans (HRW.out.be.mono hb3.size);obtain⟨x,hx⟩: ∃x,L[q]? =some x:=⟨_,List.getElem?_eq_getElem (by rw[HN.out];exact hqn)⟩;have hxb:(L.map Bu.b)[q]? =some x.b:=by rw[List.getElem?_map,hx];rfl
     have ka:=fun V (hV:Below w.heap.size w V)=>after_any a n c q L V HN.out hl hcap (HL.out.below (Nat.le_refl _) hV) x hx;obtain⟨b0,o0,rfl,hlt,hc⟩:=HL.out q x hx;have k0:(0:Int)≤(q:Int):=Int.natCast_nonneg _;have k1:(q:Int)<(n:Int):=by omega
     have c0:=hc 0 _ rfl;have c1:=hc 1 _ rfl;have c2:=hc 2 _ rfl;rw[off_eq]at c0 c1 c2;rw[Nat.add_zero]at c0;have d0:=(hbr.cell (p:=⟨b0,o0+q*3,none⟩) hlt).trans c0;have d1:=(hbr.cell (p:=⟨b0,o0+q*3+1,none⟩) hlt).trans c1;have d2:=(hbr.cell (p:=⟨b0,o0+q*3+2,none⟩) hlt).trans c2;have hxo:=HO.out x (List.mem_of_getElem? hx);have hxs:=HSm.out x (List.mem_of_getElem? hx);have hck:=check_one _ 0 HCE.out x.b (List.mem_of_getElem? hxb) (by decide);have ks:=fun V (hV:Below w.heap.size w V)=>(starts_any x V (hxo.below (Nat.le_refl _) hV) hxs).mono fun e w' h=>h.ok hck;have hst:=stp_drop u _ q hxb
     have hafm: ∀t,afterO x.b.pid ((L.map Bu.b).drop (q+1))=some t→ ∀e∈endsOf x.b,0≤e∧e≤t∧t≤4000:=fun t ht e he=>by
      have h1:=ends_in hck e he;obtain⟨y,hy,rfl⟩:=after_mem ht;have h2:=after_ge HCE.out hxb y hy;have h3:=(end_ge _ 0 HCE.out).2 y (List.mem_of_mem_drop hy);have h4:=HD.out.e;exact⟨h1.1,by omega,by omega⟩
     obtain⟨o,ho⟩: ∃o,afterO x.b.pid ((L.map Bu.b).drop (q+1))=o:=⟨_,rfl⟩;have hstb:stB u x.b ((L.map Bu.b).drop (q+1))=⟨x.b.pid,x.b.at_,List.zipWith (sdS u o) x.b.S (endsOf x.b)⟩:=by unfold stB;rw[ho]
     rw[hstb]at hst;rw[ho]at ka hafm;have hel:=ends_len x.b;obtain⟨E,hE⟩: ∃E,endsOf x.b=E:=⟨_,rfl⟩;rw[show(stS (x.b.at_-1) 0 (x.b.S.map ByteArray.size)).map Prod.snd=endsOf x.b from rfl]at ks;rw[hE]at ks hst hafm hel;obtain⟨⟨pid,at_,S⟩,sa,sc⟩:=x;dsimp only at d0 d1 d2 ka ks hst hafm hel hxo hxs;have HXO:=Lib.hid hxo;have HXS:=Lib.hid hxs;have HST:=Lib.hid hst;have HAF:=Lib.hid hafm;obtain⟨ns,hns⟩: ∃ns,S.length=ns:=⟨_,rfl⟩;rw[hns]at d2 ks hel;have HEL:=Lib.hid (And.intro hel hns);have hns9:ns≤1000:=by rw[←hns];exact hxs.1
     unfold afV at ka;clear hc c0 c1 c2 hx hxb hck hxo hxs hst hafm ho hstb hel hns hE
     have HB0:=Lib.hid (show InI wo ((wo.alloc (.cells #[.int .i64 pid,.int .i64 at_,.slice sa ns sc] 36)).alloc (.cells #[.int .i64 pid,.int .i64 at_,.slice none 0 0] 36)) pid at_ (.slice sa ns sc) (.slice none 0 0) [] (.slice none 0 0) []from
      ⟨Blk.alloc (Blk.new _ _ _) _,Blk.newAt _ _ _ (by simp),World.ownsRow_nil _ _ _ _,World.ownsRow_nil _ _ _ _,((Below.refl _ _).alloc (Nat.le_refl _) _).alloc (by simp) _⟩)
     have ka1:=ka _ (hbr.trans (HB0.out.be.mono hbr.size));clear ka
     go_wp2_with fail
     (with_reducible refine(ka1).mono ?_);rintro e3 W3 ⟨rfl,hb4⟩
     have HB1:=Lib.hid (HB0.out.below hb4);have ks1:=ks W3 (hbr.trans (HB1.out.be.mono hbr.size));have f0:=Blk.cell (HB1.out.b) 0 (v:= .int .i64 pid) rfl;have f1:=Blk.cell (HB1.out.b) 1 (v:= .int .i64 at_) rfl;have f2:=Blk.cell (HB1.out.b) 2 (v:= .slice sa ns sc) rfl;clear ka1 hb4 HB0 ks d0 d1 d2
     go_wp2_with fail
     (with_reducible refine(ks1).mono ?_);rintro e4 W4 ⟨v1,v2,rfl,hS2⟩
     have HB2:=Lib.hid (show InI wo W4 pid at_ (.slice sa ns sc) (.slice none 0 0) [] v2 E from by
      have h1:=HB1.out.below hS2.be;exact⟨h1.b,h1.x,h1.o,own_base hS2.o2 HB1.out.be.size,h1.be⟩)
     have g0:=Blk.cell (HB2.out.b) 0 (v:= .int .i64 pid) rfl;have g1:=Blk.cell (HB2.out.b) 1 (v:= .int .i64 at_) rfl;have g2:=Blk.cell (HB2.out.b) 2 (v:= .slice sa ns sc) rfl;have hs1:=hS2.o1;obtain⟨q1,q2,rfl⟩:=own_form hs1;have hs2:=hS2.o2;obtain⟨q3,q4,rfl⟩:=own_form hs2;rw[HEL.out.1]at HB2 ⊢;clear ks1 f0 f1 f2 HB1 hS2 hs1 hs2
     go_wp2_with fail
     clear g0 g1 g2
     go_loopw [62] (fun kv wr=> ∃(k:Nat) (vx:Value),k≤ns∧kv= .int .i64 k∧Hid (InI wo wr pid at_ (.slice sa ns sc) vx (List.zipWith (sdS u o) (S.take k) (E.take k)) (.slice q3 ns q4) E)) (fun kv _=>ns-(intOf kv).toNat)
     case atStart=>exact⟨0,_,by omega,rfl,HB2⟩
     case round=>
      obtain⟨k,vx,hk,rfl,HB3⟩:=hrel;obtain⟨T,hTT⟩: ∃T,List.zipWith (sdS u o) (S.take k) (E.take k)=T:=⟨_,rfl⟩;rw[hTT]at HB3
      have hTl:T.length=k:=by
       rw[←hTT,List.length_zipWith,List.length_take,List.length_take,HEL.out.1,HEL.out.2];omega
      have HTT:=Lib.hid hTT;have HTL:=Lib.hid hTl;have hTl9:T.length≤1000:=by omega
      clear hTl;by_cases hkn:k<ns
      ·have t2:decide (k<ns)=true:=decide_eq_true hkn
       obtain⟨s,hs⟩: ∃s,S[k]? =some s:=⟨_,List.getElem?_eq_getElem (by rw[HEL.out.2];exact hkn)⟩;obtain⟨fr,hfr⟩: ∃fr,E[k]? =some fr:=⟨_,List.getElem?_eq_getElem (by rw[HEL.out.1];exact hkn)⟩;obtain⟨B1,O1,rfl,l1,p1⟩:=HXO.out.s k s hs;have p1:=p1 0 _ rfl;rw[off_eq,Nat.mul_one,Nat.add_zero]at p1;have hbz:=hbr.trans (HB3.out.be.mono hbr.size);have y1:=(hbz.cell (p:=⟨B1,O1+k,none⟩) l1).trans p1;have hos:=HB3.out.s;rw[HEL.out.1]at hos;have hq3:=own_seq (en:=en1) (fun _=>rfl) hos HEL.out.1;obtain⟨B2,O2,rfl,l2,p2⟩:=hq3 k fr hfr;have y2:=p2 0 _ rfl;rw[off_eq,Nat.mul_one,Nat.add_zero]at y2;have hx5:=HXS.out.2 s (List.mem_of_getElem? hs);have kst:=stamped_any s u fr o wr (HT.out.be hbz) (by omega) HD.out.u (fun t ht=>HAF.out t ht fr (List.mem_of_getElem? hfr));have HZS:=Lib.hid (zip_step (sdS u o) hs hfr);have j0:(0:Int)≤(k:Int):=Int.natCast_nonneg _;have j1:(k:Int)<(ns:Int):=by omega
       obtain⟨X,hX⟩: ∃X,sdS u o s fr=X:=⟨_,rfl⟩;rw[hX]at kst HZS;clear hTT hs hfr l1 p1 hos hq3 l2 p2 hX HB2
       go_wp2_with fail
       (with_reducible refine(kst).mono ?_);rintro e5 W5 ⟨rfl,hb5⟩
       have HB4:=Lib.hid (HB3.out.below hb5);obtain⟨vxa,vxc,rfl⟩:=own_form HB4.out.o;have x2:=Blk.cell HB4.out.x 2 (v:= .slice vxa T.length vxc) rfl;have HB5:=Lib.hid (HB4.out.below ((Below.refl _ _).alloc (Nat.le_refl _) (.cells #[.string X] 9)));have hz5:=HB5.out.be.size;have hb9:=Blk.new W5 9 #[.string X];clear kst hb5 HB3 y1 y2 HB4
       go_wp2_with (at_builtin;refine wpList_appG rfl _ _ rfl elemS2 rfl HB5.out.o rfl rfl (blk_news hb9) (by simp[Value.oneCell']) (by omega) (by unfold maxLen;omega) hz5 ?_)
       intro v9 w8 hown9 hgr9 hat9;obtain⟨va,vc,rfl⟩:=own_form hown9;obtain⟨HP6,hX6⟩:=HB5.out.push hgr9 hown9;have h0:=Blk.frozen (hX6) 0;have h1:=Blk.frozen (hX6) 1;have h2:=Blk.frozen (hX6) 2;have i2:=Blk.cell (hX6) 2 (v:= .slice vxa T.length vxc) rfl;have HB6:=Lib.hid HP6;clear HP6 hX6 hown9 hgr9 hat9 hb9 HB5 x2
       go_wp2_with fail
       go_roundw
       case rel=>exact⟨k+1,_,by omega,by go_num,by rw[HZS.out,HTT.out];exact HB6⟩
       case measure=>simp[intOf];omega
      ·obtain rfl:k=ns:=by omega
       have t2:decide (k<k)=false:=by simp
       have hTf:T=List.zipWith (sdS u o) S E:=by
        rw[←hTT,List.take_of_length_le (by rw[HEL.out.2];exact Nat.le_refl _),List.take_of_length_le (by rw[HEL.out.1];exact Nat.le_refl _)]
       have HTF:=Lib.hid hTf;obtain⟨vxa,vxc,rfl⟩:=own_form HB3.out.o;rw[HTL.out]at HB3;have f0:=Blk.cell (HB3.out.x) 0 (v:= .int .i64 pid) rfl;have f1:=Blk.cell (HB3.out.x) 1 (v:= .int .i64 at_) rfl;have f2:=Blk.cell (HB3.out.x) 2 (v:= .slice vxa k vxc) rfl;have hbe3:=HB3.out.be;have HO3:=Lib.hid (off_new (b:=⟨pid,at_,T⟩) HRW.out (by have:=HB3.out.o;rw[HTL.out]at this;exact this) HTL.out);have HR3:=Lib.hid (HRW.out.below hbe3);have hba:=(Below.refl wr.heap.size wr).alloc (Nat.le_refl _) (.cells #[.int .i64 pid,.int .i64 at_,.slice vxa k vxc] 36);have HO4:=Lib.hid (HO3.out.below hba);have HR4:=Lib.hid (HR3.out.below hba);have hb9:=Blk.new wr 36 #[.int .i64 pid,.int .i64 at_,.slice vxa k vxc];have hz4:=HR4.out.be.size;have hen:enBu ⟨⟨pid,at_,T⟩,vxa,vxc⟩=[.int .i64 pid,.int .i64 at_,.slice vxa k vxc]:=by unfold enBu;rw[HTL.out]
       have HEN:=Lib.hid hen;clear hTT hTf hbe3 hba HO3 HR3 hen HB2 HB3
       go_wp2_with (at_builtin;refine wpList_appG rfl _ _ rfl elemB rfl HR4.out.o1 rfl rfl (blk_news hb9) (by simp[Value.oneCell']) (by omega) (by unfold maxLen;omega) hz4 ?_)
       intro v9 w8 hownN hgN hatN;have HR5:=Lib.hid (HR4.out.add1 HO4.out (by rw[HEN.out,hDq];exact hownN) hgN (by simpa using hatN))
       have HI5:=Lib.hid (show(D++[(⟨⟨pid,at_,T⟩,vxa,vxc⟩:Bu)]).map Bu.b=(stpL u (L.map Bu.b)).take (q+1)from by
        rw[List.map_append,HI.out,List.take_add_one,HST.out,HTF.out];rfl)
       clear HR4 HO4 hb9 hownN hgN hatN f0 f1 f2
       go_wp2_with fail
       go_roundw
       case rel=>exact⟨q+1,_,by omega,by go_num,HI5,HR5⟩
       case measure=>simp[intOf];omega
    ·obtain rfl:q=n:=by omega
     have t1:decide (q<q)=false:=by simp
     go_wp2_with fail
     rw[HR.out];refine⟨hb3.trans (HRW.out.be.mono hb3.size),fun h=>absurd HCE.out h,fun _ h=>absurd HD.out.u h,fun _ _=>⟨_,D,rfl,?_,?_,fun d hd=>(HRW.out.d1 d hd).1⟩⟩
     ·rw[HI.out,List.take_of_length_le (by rw[stp_len,List.length_map,HN.out];exact Nat.le_refl _)]
     ·have:=own_base HRW.out.o1 hb3.size
      rw[hDq]at this;exact this
  ·have kd:=fun V=>delta_bad u V hu
   have HU:=Lib.hid hu;clear hd hu
   go_enter Tryz.func11,Tryz.ntmps11
   go_wp2_with fail
   (with_reducible refine(kc).mono ?_);rintro e1 W1 ⟨rfl,hb1⟩
   clear kc
   go_wp2_with fail
   (with_reducible refine(kd _).mono ?_);rintro e2 W2 ⟨rfl,hb2⟩
   have hb3:=hb1.trans (hb2.mono hb1.size)
   go_wp2_with fail
   rw[HR.out];exact⟨hb3,fun h=>absurd HCE.out h,fun _ _=>rfl,fun _ h=>absurd h HU.out⟩
 ·have x0:(CE==0)=false:=beq_eq_false_iff_ne.2 hce
  have HCN:=Lib.hid hce;clear hd hce
  go_enter Tryz.func11,Tryz.ntmps11
  go_wp2_with fail
  (with_reducible refine(kc).mono ?_);rintro e1 W1 ⟨rfl,hb1⟩
  go_wp2_with fail
  rw[HR.out];exact⟨hb1,fun _=>by rw[HCE.out];rfl,fun h=>absurd (HCE.out.symm.trans h) HCN.out,fun h=>absurd (HCE.out.symm.trans h) HCN.out⟩
end Go.Proofs.YtibjkhepedfpiaaGreatDoor.SbB
