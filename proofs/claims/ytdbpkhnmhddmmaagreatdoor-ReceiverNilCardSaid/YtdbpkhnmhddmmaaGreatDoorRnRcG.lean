import Derived.Test.YtdbpkhnmhddmmaaGreatDoorRnRcF
import Derived.Test.YtdbpkhnmhddmmaaGreatDoorRnTpA
namespace Go.Proofs.YtdbpkhnmhddmmaaGreatDoor.RcG
open Go Go.RowKit Q Mem Rg Ap St BiH CrB Ints Tab TbM TbO TbP TbT TbU TbV TbW PaA PaR PaP PaN PaK PkE PkY FrA FrB FrC LaA LaH LaQ BuB BuC BuE BuF BuI BuL BuN BuP BoP BoQ JnP JnS JnA JnD JnE FrG TpM TpP TpX TpW TpA RcA RcB RcC RcD RcE RcF
theorem txL_is {F:Fr} {T:Tb} {P:Nat→Prop} (hF:FrS F) (h:KnS F T P): ∃M:List (Nat×ByteArray),M.Sublist F.L∧txL T (rowC F)=M.map (·.2)∧(cntF T 256=0→M=F.L)∧(∀(i:Nat) x,F.L[i]? =some x→P i→x∈M):=by
 obtain⟨M,hM,hMF⟩:=mended_out hF h;refine⟨M,hM.sub,?_,hMF,hM.has⟩;unfold txL;rw[h.1.R,hM.out,List.map_map];refine List.map_congr_left (fun x hx=>?_);show str (bytesL (mdS T (rowC F) 256) x.1 x.2.size)=x.2;rw[hM.txt x hx,str_bl]
theorem one_take {F:Fr} {s:ByteArray} (hO:OneF F s) (hl:F.L.length=1) (hK:F.K=64) (x:Rv) (j:Jn) (hx:x={rv0 true 17 (-1) 10 3 300 300 with j:=j}):
 TkOk x s (fun _=>[]) (rowC F)∧(x.takeR s (fun _=>[]) (rowC F)).out=F.L.map (·.2)∧(x.takeR s (fun _=>[]) (rowC F)).m.Inv:=by
 have hi:x.m.Inv:=by rw[hx];exact Aw.inv_start (by decide)
 obtain⟨y,hy⟩: ∃y,F.L[0]? =some y:=⟨_,List.getElem?_eq_getElem (by omega)⟩;have hs0:(mkL F 5)[0]? =some s:=by rw[hO.mkl];rfl
 have hgp:=mk_m hy 5;rw[hs0]at hgp;injection hgp with hgp
 have htm:tmE s=0:=by rw[hgp];exact(tm_m (by rw[gp_chk hO.frs.mks.good hy,if_pos (by decide)])).1
 obtain⟨k1,k2,k3⟩:=kns_step hO.frs (kns_empty F) (by simp[emptyT]) hs0;have hst:x.m.state=1:=by rw[hx];rfl
 have hea:x.wakes.early=false:=by rw[hx];rfl
 have hpre:x.pre (fun _=>[])=x.wakes:=if_neg (by rw[hea];decide);have hS:(x.pre (fun _=>[])).S=emptyT 256∧(x.pre (fun _=>[])).mac= -1:=by rw[hpre,hx];exact⟨rfl,rfl⟩
 have hm:x.mac= -1:=by rw[hx];rfl
 have hla:((x.pre (fun _=>[])).hears s).last s=true:=by
  unfold Rv.last Rv.hears;dsimp only;rw[hS.1,hS.2];show(decide (BuP.tkE 256 (-1) s=0)&&BuP.tkF 256 (-1) s)=true;rw[k1,k2,hl,hK];rfl
 have hT:(((x.pre (fun _=>[])).hears s).gets s).S=tkT (emptyT 256) (-1) s:=by
  unfold Rv.gets Rv.hears;dsimp only;rw[hS.1,hS.2]
 have hR: ∀q,q<256→RowOf (tkT (emptyT 256) (-1) s) q (rowC F q):=fun q hq=>k3.row hO.frs q (by rw[k3.1.R];exact hq)
 have htk:x.takeR s (fun _=>[]) (rowC F)=(((x.pre (fun _=>[])).hears s).gets s).endR (rowC F):=by
  unfold Rv.takeR;rw[if_neg (fun e=>e htm),if_neg (fun e=>by rw[hst]at e;exact absurd e.1 (by decide)),if_pos hla]
 have hz:x.sec=0∧x.wrong=0∧x.frames=0∧x.failed=0∧x.out=[]∧x.n=0∧x.S=emptyT 256:=by rw[hx];exact⟨rfl,rfl,rfl,rfl,rfl,rfl,rfl⟩
 obtain⟨z1,z2,z3,z4,z5,z6,z7⟩:=hz;refine⟨{hi:=hi,hs:=by have:=hO.sz;omega,c1:=by omega,c2:=by omega,c3:=by omega,c4:=by omega,c5:=by rw[z5];exact Nat.zero_le _,c6:=by omega,hok:=by rw[z7];exact LaB.empty_ok (by decide) (by decide),hst:=by rw[z7];exact Nat.zero_le _,hR:=by rw[z7];rfl,hC:=fun _ _ e=>by rw[hea]at e;exact absurd e Bool.false_ne_true,hD:=fun _ _ _ q hq=>by rw[hS.1,hm];exact hR q hq},?_,?_⟩
 ·rw[htk]
  show(((x.pre (fun _=>[])).hears s).gets s).out++txL (((x.pre (fun _=>[])).hears s).gets s).S (rowC F)=F.L.map (·.2);rw[hT];obtain⟨M,_,h2,h3,_⟩:=txL_is hO.frs k3;rw[h2,h3 (all_known hO.frs k3 (fun i hi=>Or.inr (by omega)))]
  have:(((x.pre (fun _=>[])).hears s).gets s).out=[]:=by
   show(x.pre (fun _=>[])).out=[];rw[hpre,hx];rfl
  rw[this,List.nil_append]
 ·rw[htk]
  show((x.pre (fun _=>[])).m.heard _ _ _).Inv;exact Aw.heard_inv _ (pre_is _ hi (by rw[hx];exact LaB.empty_ok (by decide) (by decide))).1 _ _ _
set_option maxRecDepth 100000
set_option maxHeartbeats 3200000 in
theorem example_any (w:World) (hT:Tab 4 w) (hF:Tab 2 w) (hZ:Tab 1 w) (hW:Wid 0 w):Calls Tryz.prog 8 #[] w fun e w'=>e= .returned (.bool true)∧Below w.heap.size w w':=by
 have hbe:=(Below.refl w.heap.size w).alloc (Nat.le_refl _) (.cells #[.int .i64 30] 3);have hB:=Blk.new w 3 #[.int .i64 30];have km:=made22_any 64 (some ⟨w.heap.size,0,none⟩) 1 1 1 [30] (w.alloc (.cells #[.int .i64 30] 3)) (hT.be hbe) (hF.be hbe) rfl (by decide) (ints_blk hB rfl) (by decide) (by decide) (by decide);rw[show(((1:Nat):Int))=1 from rfl]at km;have HT:=Lib.hid (And.intro hT (And.intro hF (And.intro hZ hW)));have HBE:=Lib.hid hbe;clear hT hF hZ hW hbe hB
 go_enter Tryz.func8,Tryz.ntmps8
 go_wp2_with fail
 (with_reducible refine(km).mono ?_);rintro e1 W1 hmd
 obtain⟨k,mb,mo,c,gv,hk,hk64,rfl,hsl,hcap,hFS,hmap,hgr,hmb⟩:=hmd.full (by decide);obtain rfl:k=64:=by omega
 have HB1:=Lib.hid (HBE.out.trans (hmd.be.mono HBE.out.size));obtain⟨s,hO⟩:=one_f;have HO:=Lib.hid hO;have HMP:=Lib.hid hmap;have HFL:=Lib.hid (show(frD 256 191 64 (gramL 1 [30])).L.length=1 from by rw[←List.length_map (f:=(·.2)),hmap];rfl);have HFK:=Lib.hid (show(frD 256 191 64 (gramL 1 [30])).K=64 from(frD_R 256 191 64 (gramL 1 [30])).2.2);obtain⟨F,hFe⟩: ∃F,frD 256 191 64 (gramL 1 [30])=F:=⟨_,rfl⟩;rw[hFe]at HO HMP HFL HFK hsl hcap;rw[hFe];rw[HO.out.mkl]at hsl hcap;rw[HO.out.mkl];obtain⟨d,hd⟩: ∃d,gramL 1 [30]=[d]:=⟨_,rfl⟩;rw[hd]at hgr HMP;obtain⟨ga,gc,rfl⟩:=Ap.own_form hgr;have HSL:Hid (Slc W1 (some ⟨mb,mo,none⟩) 1 c [s]):=Lib.hid hsl;have HGR:Hid (W1.ownsRow (w.alloc (.cells #[.int .i64 30] 3)).heap.size 9 1 (.slice ga 1 gc) 1 (flat enS [d])):=Lib.hid hgr;have HCP:Hid (1≤c):=Lib.hid hcap;clear km hk hk64 hsl hcap hFS hmap hgr hmd hO hFe hd hmb
 go_wp2_with fail
 (with_reducible refine(plain_any true W1).mono ?_);rintro e1 W2 ⟨rfl,hb2⟩
 have HB2:=Lib.hid (HB1.out.trans (hb2.mono HB1.out.size));have HSL2:=Lib.hid (HSL.out.below hb2);have HGR2:=Lib.hid (own_below HGR.out hb2);have HGLT:=Lib.hid (fun i (hi:(Value.slice ga 1 gc).ownBlock=some i)=>(HGR2.out.lt i hi).2);have kr:=rnew_yes true 17 (-1) 10 3 300 300 W2 (HT.out.2.2.1.be HB2.out) (by decide) (by decide) (by decide) (by decide) (by decide) (by decide);clear hb2 HSL HGR HB1
 go_wp2_with fail
 (with_reducible refine(kr).mono ?_);rintro e1 W3 ⟨r,gj,gg,gt,gr,gm,rfl,hb3,hRv⟩
 have HB3:=Lib.hid (HB2.out.trans (hb3.mono HB2.out.size));have HSL3:=Lib.hid (HSL2.out.below hb3);have HGR3:=Lib.hid (own_below HGR2.out hb3);have HRV3:=Lib.hid hRv;have kp:=pack_call 17 0 0 1 (some ⟨mb,mo,none⟩) 1 c [s] W3 rfl HO.out.np (by decide) (by decide) rfl (by decide) HCP.out HSL3.out.s (by intro x hx;obtain rfl:=List.mem_singleton.1 hx;have:=HO.out.sz;omega) HO.out.pa;clear kr hb3 hRv HSL2 HGR2
 go_wp2_with fail
 (with_reducible refine(kp).mono ?_);rintro e1 W4 ⟨⟨ao,cap,rfl,hsp⟩,hb4⟩
 have HB4:=Lib.hid (HB3.out.trans (hb4.mono HB3.out.size));have HGR4:=Lib.hid (own_below HGR3.out hb4);have HRV4:=Lib.hid (HRV3.out.below hb4);obtain⟨b0,o0,rfl,hlt,hc⟩:=hsp 0 (pkI 17 0 [s] 0) rfl;have hPK:=pkI_ok (pid:=17) (by decide) 0 [s] 0 ((bst_of HO.out.pa).more 0 (by rw[HO.out.np];decide));have ke:=enc_pk (pkI 17 0 [s] 0) W4 (HT.out.2.2.2.be HB4.out) hPK;rw[show pkBy (pkI 17 0 [s] 0)=byt 17 0 [s] 0 from rfl]at ke;have hbl:=byt_len (pid:=17) (by decide) 0 [s] 0 ((bst_of HO.out.pa).more 0 (by rw[HO.out.np];decide))
 have hnO:newO [s] 0=[s]:=by
  have h1:=outs_end HO.out.pa;rw[HO.out.np,outs_succ]at h1;exact h1
 have hbj:=byJ_new (c:=0) HO.out.pa (k:=0) (by rw[HO.out.np];decide);rw[hnO]at hbj;have HBJ:Hid (byJ (rv0 true 17 (-1) 10 3 300 300).j (str (byt 17 0 [s] 0))=⟨[s],0,jnK 17 0 [s] 1⟩):=Lib.hid hbj;have HBL:=Lib.hid hbl;obtain⟨BT,hBT⟩: ∃B,str (byt 17 0 [s] 0)=B:=⟨_,rfl⟩;rw[hBT]at ke HBJ;have HBS:Hid (BT.size=188):=Lib.hid (by rw[←hBT,str_size];exact HBL.out);have hq: ∀(i:Nat) (u:Value),(enPk (pkI 17 0 [s] 0))[i]? =some u→W4.cell? ⟨b0,o0+i,none⟩=some u:=fun i u h=>by have:=hc i u h;simpa [off_eq]using this
 obtain⟨P,hP⟩: ∃P,pkI 17 0 [s] 0=P:=⟨_,rfl⟩;rw[hP]at ke hq;have q0:W4.cell? ⟨b0,o0,none⟩=some (.int .i64 P.pid):=hq 0 _ rfl;have q1:W4.cell? ⟨b0,o0+1,none⟩=some (.bool P.start):=hq 1 _ rfl;have q2:W4.cell? ⟨b0,o0+2,none⟩=some (.int .i64 P.count):=hq 2 _ rfl;have q3:W4.cell? ⟨b0,o0+3,none⟩=some (.bool false):=hq 3 _ rfl;have q4:W4.cell? ⟨b0,o0+4,none⟩=some (.string P.body):=hq 4 _ rfl;clear kp hb4 hsp hlt hc hPK hbl hnO hbj hBT hq hP HSL3 HGR3 HRV3 HBL
 go_wp2_with fail
 (with_reducible refine(ke).mono ?_);rintro e1 W5 ⟨rfl,hb5⟩
 have HB5:=Lib.hid (HB4.out.trans (hb5.mono HB4.out.size));have HGR5:=Lib.hid (own_below HGR4.out hb5);have HRV5:=Lib.hid (HRV4.out.below hb5);obtain⟨tok,tout,tinv⟩:=one_take HO.out HFL.out HFK.out {rv0 true 17 (-1) 10 3 300 300 with j:=jnK 17 0 [s] 1} (jnK 17 0 [s] 1) rfl;obtain⟨xs,hx0,hx1⟩: ∃xs:Nat→Rv,xs 0={rv0 true 17 (-1) 10 3 300 300 with j:=jnK 17 0 [s] 1}∧xs 1=Rv.takeR {rv0 true 17 (-1) 10 3 300 300 with j:=jnK 17 0 [s] 1} s (fun _=>[]) (rowC F):=⟨fun k=>if k=0 then _ else _,rfl,rfl⟩
 have ks:=slot_busy W5 W2.heap.size r gj gg gt gr gm (.slice none 0 0) (rv0 true 17 (-1) 10 3 300 300) BT xs 1 (fun _ _=>[]) (fun _=>rowC F) HRV5.out (HT.out.1.be HB5.out) (HT.out.1.be HB2.out).lt (HT.out.2.2.2.be HB5.out) (by rw[HBS.out];decide) (by rw[HBS.out];decide) (Or.inl rfl) (Nat.zero_le _) (by show(0:Int)≤0∧(0:Int)≤15;decide) (Nat.zero_le _) (by rw[HBJ.out];rfl) (by decide) (by rw[hx0,HBJ.out]) (by
  intro k s' h;rw[HBJ.out]at h
  cases k with
  |zero=>
   have h':s=s':=by simpa using h
   subst h';rw[hx0];exact⟨tok,hx1⟩
  |succ k=>simp at h) (by rw[hx1];exact tinv)
 rw[HBJ.out]at ks;have hout:(xs 1).out=[d]:=by rw[hx1,tout,HMP.out]
 rw[hout]at ks;clear ke hb5 q0 q1 q2 q3 q4 tok tout tinv hx0 hx1 hout HGR4 HRV4
 go_wp2_with fail
 (with_reducible refine(ks).mono ?_);rintro e1 W6 ⟨v6,ov6,rfl,hs6,hrow6⟩
 have hb6:=HB5.out.trans (hs6.k.be (B:=w.heap.size) HB5.out.size (fun i e=>Nat.le_trans HB2.out.size (HRV5.out.ge i e).1));have hg6:=FrA.own_kept HGR5.out hs6.k (fun i hi e=>by have h1:=(HRV5.out.ge i e).1;have h2:=HGLT.out i hi;omega);obtain⟨oa,oc,rfl⟩:=Ap.own_form hrow6;have hrow6':W6.ownsRow W5.heap.size 9 1 (.slice oa 1 oc) 1 (flat enS [d]):=hrow6;obtain⟨b5,o5,rfl,hlt5,hc5⟩:=(own_seq (en:=enS) BuE.enS_one hrow6' rfl) 0 d rfl;obtain⟨b6,o6,rfl,hlt6,hc6⟩:=(own_seq (en:=enS) BuE.enS_one hg6 rfl) 0 d rfl;have z5:W6.cell? ⟨b5,o5,none⟩=some (.string d):=hc5 0 _ rfl;have z6:W6.cell? ⟨b6,o6,none⟩=some (.string d):=hc6 0 _ rfl;have y5:=fun pX=>((below_ext W6 pX).cell (p:=⟨b5,o5,none⟩) hlt5).trans z5;have y6:=fun pX=>((below_ext W6 pX).cell (p:=⟨b6,o6,none⟩) hlt6).trans z6;have t5:(d.toList==d.toList)=true:=beq_self_eq_true _;have HB6:=Lib.hid hb6;clear ks hs6 hrow6 hrow6' hg6 hlt5 hlt6 hc5 hc6 z5 z6 hb6
 go_wp2_with fail
 refine Go.Proofs.YtdbpkhnmhddmmaaGreatDoor.Q.region_ext (by kernel_rfl) (by kernel_rfl) ?_
 repeat (go_big_quiet_step (fail))
 refine wpQuiet_nil ?_;rintro w9 ⟨pq,rfl⟩;have hb9:=HB6.out.trans ((below_ext W6 pq).mono HB6.out.size);clear y5 y6 t5
 go_wp2_with fail
 go_ret;exact⟨rfl,hb9⟩
end Go.Proofs.YtdbpkhnmhddmmaaGreatDoor.RcG
