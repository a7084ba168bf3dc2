import Derived.Test.YtibjkhepedfpiaaGreatDoorSgPkI
namespace Go.Proofs.YtibjkhepedfpiaaGreatDoor.LyA
open Go Go.RowKit Q Mem Rg Ap ApG St CrB PaA PaK PaP SlM SlA SlB SlC SlP SlR SlS SlW SlX SlOpn
def rb (r:Rn):Br:=⟨r.pid,r.at_,r.l.map Pc.bytes⟩
theorem take_rb {L:List Rn} {q:Nat} {r:Rn} (h:L[q]? =some r):(L.map rb).take (q+1)=(L.map rb).take q++[rb r]:=by
 rw[List.take_add_one,List.getElem?_map,h];rfl
noncomputable def endE:Int→List Br→Int
 |e,[]=>e
 |_,b::t=>endE (b.at_+manyN b.S) t
set_option maxRecDepth 100000
set_option maxHeartbeats 3200000 in
theorem bursts_any (a:Option Addr) (n c:Nat) (L:List Rn) (w:World) (hn:L.length=n) (hl:n≤100000) (hL:Seq enRn 3 w a L) (hin: ∀r∈L,RnIn w r) (h8: ∀r∈L,r.l.length≤8):
 Calls Tryz.prog 8 #[.slice a n c] w fun e w'=> ∃v D,e= .returned v∧D.map Bu.b=L.map rb∧w'.ownsRow w.heap.size 36 3 v n (flat enBu D)∧(∀d∈D,BuOk w' d)∧Below w.heap.size w w':=by
 have HL:=Lib.hid hL;have HN:=Lib.hid hn;have HIN:=Lib.hid hin;have H8:=Lib.hid h8;clear hL hn hin h8
 go_enter Tryz.func8,Tryz.ntmps8
 go_wp2_with fail
 go_loopw [3,4] (fun v1 i wr=> ∃(q:Nat) (D:List Bu),q≤n∧i= .int .i64 q∧Hid (D.map Bu.b=(L.map rb).take q)∧Hid (Rws w wr 36 36 v1 (.slice none 0 0) D [])) (fun _ i _=>n-(intOf i).toNat)
 case atStart=>exact⟨0,[],by omega,rfl,Lib.hid rfl,Lib.hid (rows_nil _ _ _)⟩
 case round=>
  obtain⟨q,D,hq,rfl,HI,HR⟩:=hrel
  have hDq:D.length=q:=by
   have:=congrArg List.length HI.out;rw[List.length_map,List.length_take,List.length_map,HN.out]at this;omega
  by_cases hqn:q<n
  ·have t1:decide (q<n)=true:=decide_eq_true hqn
   obtain⟨r,hr⟩: ∃r,L[q]? =some r:=⟨_,List.getElem?_eq_getElem (by rw[HN.out];exact hqn)⟩;obtain⟨b0,o0,rfl,hlt,hc⟩:=HL.out q r hr;have k0:(0:Int)≤(q:Int):=Int.natCast_nonneg _;have k1:(q:Int)<(n:Int):=by omega
   have x0:=hc 0 _ rfl;have x1:=hc 1 _ rfl;have x2:=hc 2 _ rfl;rw[off_eq]at x0 x1 x2;rw[Nat.add_zero]at x0;have hri:=HIN.out r (List.mem_of_getElem? hr);have hr8:=H8.out r (List.mem_of_getElem? hr);have HDR:=Lib.hid (take_rb hr);obtain⟨pid,at_,la,lc,l⟩:=r;dsimp only[enRn,RnIn]at x0 x1 x2 hri hr8;obtain⟨M,hM⟩: ∃M,l.length=M:=⟨_,rfl⟩;have kt:=fun V (hV:Le wr V)=>texts_any la M lc l V hM (by omega) ((hri.1.below (Nat.le_refl _) HR.out.be).below (Nat.le_refl _) (le_below hV)) hri.2.2;obtain⟨S,hS⟩: ∃S,l.map Pc.bytes=S:=⟨_,rfl⟩;have hSM:S.length=M:=by rw[←hS,List.length_map,hM]
   rw[hM]at x2;rw[hS]at kt;have hM8:M≤8:=by omega
   rw[show rb ⟨pid,at_,la,lc,l⟩=⟨pid,at_,S⟩ by unfold rb;rw[←hS]]at HDR;have f0:=fun p=>((HR.out.below (below_ext _ p)).be.cell (p:=⟨b0,o0+q*3,none⟩) hlt).trans x0;have f1:=fun p=>((HR.out.below (below_ext _ p)).be.cell (p:=⟨b0,o0+q*3+1,none⟩) hlt).trans x1;have f2:=fun p=>((HR.out.below (below_ext _ p)).be.cell (p:=⟨b0,o0+q*3+2,none⟩) hlt).trans x2;clear hc hr hri hr8 hS hM x0 x1 x2
   go_wp2_with fail
   refine Go.Proofs.YtibjkhepedfpiaaGreatDoor.Rg.region_new [(16,newR 9 1 M wr.heap.size (flat enS S)),(17,newA (fun u=> #[.int .i64 pid,.int .i64 at_,u]) 9 1 M wr.heap.size (flat enS S)),(18,newSA 36 (fun u=> #[.int .i64 pid,.int .i64 at_,u]) 9 1 M wr.heap.size (flat enS S))] 19 (by kernel_rfl) (by kernel_rfl) (by kernel_rfl) (lk_cons newR_inh (lk_cons newA_inh (lk_cons newSA_inh lk_nil))) (lk_cons newR_mono (lk_cons newA_mono (lk_cons newSA_mono lk_nil))) ?_;intro σ hσ;simp only[List.take_succ_cons,List.take_zero,List.drop_succ_cons,List.drop_zero];refine Go.Proofs.YtibjkhepedfpiaaGreatDoor.Rg.wpN_take 16 (by kernel_rfl) (by kernel_rfl) (by kernel_rfl) ?_;simp only[List.take_succ_cons,List.take_zero,List.drop_succ_cons,List.drop_zero]
   repeat (go_big_quiet_step (fail))
   refine wpQuiet_nil ?_;refine wpN_sp _ rfl (by kernel_rfl) (spAt_call (f:=29) (args:= #[.slice la M lc]) (by intro w';go_simp) (fun V hV _=>(kt V hV).mono fun e w'' ⟨v,h1,h2,h3⟩=>⟨v,h1,h3,trivial,own_base h2 (le_below hV).size⟩)) ?_;simp only[Act.put,List.setIfInBounds_toArray,List.set_cons_zero,List.set_cons_succ];refine wpN_sp _ rfl (by kernel_rfl) (spAt_agg 16 rfl (by kernel_rfl) (by intro w0 ao c hv;rw[hv];go_simp)) ?_;simp only[Act.put,List.setIfInBounds_toArray,List.set_cons_zero,List.set_cons_succ];refine wpN_sp _ rfl (by kernel_rfl) (spAt_newSA 17 rfl (by kernel_rfl) (Nat.le_refl _) (by intro w0 u hu;go_simp)) ?_;simp only[Act.put,List.setIfInBounds_toArray,List.set_cons_zero,List.set_cons_succ];refine wpN_nil ?_;rintro w9 ⟨pq,rfl⟩ hp;obtain⟨g9,u,hg9,hge,hb9,hown9⟩:=hp 18 _ rfl;rw[hg9];clear hp hσ kt;obtain⟨au,cu,rfl,hcu⟩:=own_cap hown9;have HR3:=HR.out.below (below_ext _ pq);have HO3:=off_new (b:=⟨pid,at_,S⟩) HR.out hown9 hSM;refine wpList_appG rfl _ _ rfl elemB rfl HR3.o1 rfl rfl (blk_news hb9) (by simp[Value.oneCell']) (by omega) (by unfold maxLen;omega) HR3.be.size ?_;intro v9 w8 hownN hgN hatN;have hen:enBu ⟨⟨pid,at_,S⟩,au,cu⟩=[.int .i64 pid,.int .i64 at_,.slice au M cu]:=by unfold enBu;rw[hSM]
   have HR4:=Lib.hid (HR3.add1 HO3 (by rw[hen];exact hownN) hgN hatN);have HI4:=Lib.hid (show(D++[(⟨⟨pid,at_,S⟩,au,cu⟩:Bu)]).map Bu.b=(L.map rb).take (q+1)from by rw[List.map_append,HI.out,HDR.out];rfl);clear HR HI HR3 HO3 hb9 hg9 hownN hgN hatN f0 f1 f2 hen hown9
   go_wp2_with fail
   go_roundw
   case rel=>exact⟨q+1,_,by omega,by go_num,HI4,HR4⟩
   case measure=>simp[intOf];omega
  ·obtain rfl:q=n:=by omega
   have t1:decide (q<q)=false:=by simp
   go_wp2_with fail
   go_ret;refine⟨_,D,rfl,?_,?_,fun d hd=>(HR.out.d1 d hd).1,HR.out.be⟩
   ·rw[HI.out,List.take_of_length_le (by rw[List.length_map,HN.out];exact Nat.le_refl _)]
   ·have:=HR.out.o1
    rw[hDq]at this;exact this
set_option maxHeartbeats 3200000 in
theorem wrong_any (a:Option Addr) (n c:Nat) (L:List Bu) (w:World) (hn:L.length=n) (hl:n≤100000) (hL:Seq enBu 3 w a L) (hok: ∀x∈L,BuOk w x) (hsm: ∀x∈L,Small x.b):
 Calls Tryz.prog 9 #[.slice a n c] w fun e w'=>e= .returned (.tuple #[.int .i64 (if checkE 0 (L.map Bu.b)=0 then endE 0 (L.map Bu.b)else 0),.int .i64 (checkE 0 (L.map Bu.b))])∧Below w.heap.size w w':=by
 obtain⟨R0,hR0⟩: ∃R:Ending→World→Prop,R=(fun e w'=>e= .returned (.tuple #[.int .i64 (if checkE 0 (L.map Bu.b)=0 then endE 0 (L.map Bu.b)else 0),.int .i64 (checkE 0 (L.map Bu.b))])∧Below w.heap.size w w'):=⟨_,rfl⟩;rw[←hR0];have HR:=Lib.hid hR0;have HL:=Lib.hid hL;have HN:=Lib.hid hn;have HO:=Lib.hid hok;have HSm:=Lib.hid hsm;clear hL hn hok hsm hR0
 go_enter Tryz.func9,Tryz.ntmps9
 go_wp2_with fail
 go_loopw [4,5] (fun en i wr=> ∃(q:Nat) (e:Int),q≤n∧i= .int .i64 q∧en= .int .i64 e∧Hid (0≤e∧e≤1080000∧checkE e ((L.map Bu.b).drop q)=checkE 0 (L.map Bu.b)∧endE e ((L.map Bu.b).drop q)=endE 0 (L.map Bu.b))∧Below w.heap.size w wr) (fun _ i _=>n-(intOf i).toNat)
 case atStart=>exact⟨0,0,by omega,rfl,rfl,Lib.hid ⟨by decide,by decide,rfl,rfl⟩,Below.refl _ _⟩
 case round=>
  obtain⟨q,e,hq,rfl,rfl,HE,hb⟩:=hrel;by_cases hqn:q<n
  ·have t1:decide (q<n)=true:=decide_eq_true hqn
   obtain⟨x,hx⟩: ∃x,L[q]? =some x:=⟨_,List.getElem?_eq_getElem (by rw[HN.out];exact hqn)⟩;obtain⟨b0,o0,rfl,hlt,hc⟩:=HL.out q x hx;have k0:(0:Int)≤(q:Int):=Int.natCast_nonneg _;have k1:(q:Int)<(n:Int):=by omega
   have c0:=hc 0 _ rfl;have c1:=hc 1 _ rfl;have c2:=hc 2 _ rfl;rw[off_eq]at c0 c1 c2;rw[Nat.add_zero]at c0;obtain⟨hsq,hcap⟩:=HO.out x (List.mem_of_getElem? hx);obtain⟨h8,h5⟩:=HSm.out x (List.mem_of_getElem? hx)
   have hdr:(L.map Bu.b).drop q=x.b::(L.map Bu.b).drop (q+1):=by
    rw[List.drop_eq_getElem_cons (by rw[List.length_map,HN.out];exact hqn)]
    congr 1
    rw[List.getElem_map];have:=List.getElem?_eq_some_iff.1 hx;rw[this.2]
   have HDR:=Lib.hid hdr;obtain⟨⟨pid,at_,S⟩,sa,sc⟩:=x;dsimp only at c0 c1 c2 hsq hcap h8 h5;obtain⟨ns,hns⟩: ∃ns,S.length=ns:=⟨_,rfl⟩;rw[hns]at c2 hcap h8;have CW:=Lib.hid (And.intro c0 (And.intro c1 c2));have f0:=fun p=>((hb.trans ((below_ext wr p).mono hb.size)).cell (p:=⟨b0,o0+q*3,none⟩) hlt).trans c0;have f1:=fun p=>((hb.trans ((below_ext wr p).mono hb.size)).cell (p:=⟨b0,o0+q*3+1,none⟩) hlt).trans c1;clear hc hx hdr c0 c1 c2;have kr:=fun V=>lright_any pid at_ V;have hE1:checkE 0 (L.map Bu.b)=checkE e (⟨pid,at_,S⟩::(L.map Bu.b).drop (q+1)):=by rw[←HDR.out,HE.out.2.2.1]
   have HEN:=Lib.hid (show endE (at_+manyN S) ((L.map Bu.b).drop (q+1))=endE 0 (L.map Bu.b)from by rw[←HE.out.2.2.2,HDR.out];rfl);rw[checkE]at hE1;obtain⟨R,hR⟩: ∃R,decide (rightP pid at_)=R:=⟨_,rfl⟩;rw[hR]at kr
   go_wp2_with fail
   refine Go.Proofs.YtibjkhepedfpiaaGreatDoor.Q.region_ext (by kernel_rfl) (by kernel_rfl) ?_
   repeat (go_big_quiet_step ((go_at_call 30;refine ext_call_same (kr _))))
   refine wpQuiet_nil ?_;rintro w7 ⟨pq7,rfl⟩;have hb1:=hb.trans ((below_ext wr pq7).mono hb.size);obtain⟨W7,hW7⟩: ∃W7,ext wr pq7=W7:=⟨_,rfl⟩;rw[hW7]at hb1 ⊢;clear hW7 f0 f1 kr
   cases R with
   |false=>
    have hr:=of_decide_eq_false hR;rw[if_pos hr]at hE1;have HE1:=Lib.hid hE1;have hb3:=hb1;clear hr hE1 hR
    go_wp2_with fail
    rw[HR.out];exact⟨by rw[HE1.out];first|rfl|(rw[if_neg HF0.out];rfl),hb3⟩
   |true=>
    have hr:=of_decide_eq_true hR;rw[if_neg (by simpa using hr)]at hE1;have km:=lmany_any sa ns sc S W7 hns (by omega) (hsq.below (Nat.le_refl _) hb1) (by have:=sum_B h5;have:ns*5000≤1000*5000:=Nat.mul_le_mul_right _ h8;rw[hns]at*;omega);have hNB:=manyN_le h5;rw[hns]at hNB;obtain⟨F,hF⟩: ∃F,manyE S=F:=⟨_,rfl⟩;obtain⟨N,hNN⟩: ∃N,manyN S=N:=⟨_,rfl⟩;rw[hF,hNN]at km;rw[hF,hNN]at hE1;rw[hNN]at HEN hNB;have hN3:N≤30000:=by omega
    have hr0:=hr.2.2.1;have hr9:=hr.2.2.2;have c1:=(hb1.cell (p:=⟨b0,o0+q*3+1,none⟩) hlt).trans CW.out.2.1;have c2:=(hb1.cell (p:=⟨b0,o0+q*3+2,none⟩) hlt).trans CW.out.2.2;clear hr hF hNN hNB hR;by_cases hF0:F=0
    ·subst hF0
     rw[if_neg (by decide)]at hE1;by_cases hmo:at_<e
     ·have t3:decide (at_<e)=true:=decide_eq_true hmo
      rw[if_pos hmo]at hE1;have HE1:=Lib.hid hE1;clear hE1 hmo
      go_wp2_with fail
      (with_reducible refine(km).mono ?_);rintro e1 W2 ⟨rfl,hb2⟩
      have hb3:=hb1.trans (hb2.mono hb1.size);have d1:=(hb3.cell (p:=⟨b0,o0+q*3+1,none⟩) hlt).trans CW.out.2.1;clear km c1 c2
      go_wp2_with fail
      rw[HR.out];exact⟨by rw[HE1.out];first|rfl|(rw[if_neg HF0.out];rfl),hb3⟩
     ·have t3:decide (at_<e)=false:=decide_eq_false hmo
      rw[if_neg hmo]at hE1;have HE1:=Lib.hid (show checkE (at_+N) ((L.map Bu.b).drop (q+1))=checkE 0 (L.map Bu.b)from hE1.symm);have hN0:(0:Int)≤(N:Int):=Int.natCast_nonneg _;have hN9:(N:Int)≤30000:=by omega
      clear hE1 hmo
      go_wp2_with fail
      (with_reducible refine(km).mono ?_);rintro e1 W2 ⟨rfl,hb2⟩
      have hb3:=hb1.trans (hb2.mono hb1.size);have d1:=(hb3.cell (p:=⟨b0,o0+q*3+1,none⟩) hlt).trans CW.out.2.1;clear km c1 c2
      go_wp2_with fail
      go_roundw
      case rel=>exact⟨q+1,at_+N,by omega,by go_num,rfl,Lib.hid ⟨by omega,by omega,HE1.out,HEN.out⟩,hb3⟩
      case measure=>simp[intOf];omega
    ·have t2:(F==0)=false:=beq_eq_false_iff_ne.2 hF0
     rw[if_pos hF0]at hE1;have HE1:=Lib.hid hE1;have HF0:=Lib.hid hF0;clear hE1 hF0
     go_wp2_with fail
     (with_reducible refine(km).mono ?_);rintro e1 W2 ⟨rfl,hb2⟩
     have hb3:=hb1.trans (hb2.mono hb1.size);clear km c1 c2
     go_wp2_with fail
     rw[HR.out];exact⟨by rw[HE1.out];first|rfl|(rw[if_neg HF0.out];rfl),hb3⟩
  ·obtain rfl:q=n:=by omega
   have t1:decide (q<q)=false:=by simp
   have h0:(L.map Bu.b).drop q=[]:=List.drop_of_length_le (by rw[List.length_map,HN.out];exact Nat.le_refl _)
   have HX:=Lib.hid (show checkE 0 (L.map Bu.b)=0∧endE 0 (L.map Bu.b)=e from by
    obtain⟨_,_,h1,h2⟩:=HE.out;rw[h0]at h1 h2;exact⟨h1.symm,h2.symm⟩)
   clear h0
   go_wp2_with fail
   rw[HR.out];exact⟨by rw[HX.out.1,HX.out.2];rfl,hb⟩
end Go.Proofs.YtibjkhepedfpiaaGreatDoor.LyA
