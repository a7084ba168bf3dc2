import Derived.Test.YtibjkhepedfpiaaDoorSlSlP
import Derived.Test.YtibjkhepedfpiaaDoorSlSlR
import Derived.Test.YtibjkhepedfpiaaDoorSlApG
namespace Go.Proofs.YtibjkhepedfpiaaDoor.SlS
open Go Go.RowKit Q Mem Rg Ap ApG St CrB PaA PaK PaP SlM SlP SlR SlB
structure Br where
 pid:Int
 at_:Int
 S:List ByteArray
structure Bu where
 b:Br
 a:Option Addr
 c:Nat
def enBu (x:Bu):List Value:=[.int .i64 x.b.pid,.int .i64 x.b.at_,.slice x.a x.b.S.length x.c]
theorem enBu_len (x:Bu):(enBu x).length=3:=rfl
structure BuOk (w:World) (x:Bu):Prop where
 s:Seq enS 1 w x.a x.b.S
 c:x.b.S.length≤x.c
theorem BuOk.below {w w':World} {B:Nat} {x:Bu} (h:BuOk w x) (hB:w.heap.size≤B) (hb:Below B w w'):BuOk w' x:=⟨h.s.below hB hb,h.c⟩
def Small (b:Br):Prop:=b.S.length≤1000∧ ∀s∈b.S,s.size≤5000
noncomputable def planE (most:Int):Int→List Br→Int
 |_,[]=>0
 |e,b::t=>if ¬rightP b.pid b.at_ then 15 else if manyE b.S≠0 then manyE b.S else if most<manyN b.S then 17 else if 1048576<max b.at_ e then 15 else planE most (max b.at_ e+manyN b.S) t
noncomputable def planL:Int→List Br→List Br
 |_,[]=>[]
 |e,b::t=>⟨b.pid,max b.at_ e,b.S⟩::planL (max b.at_ e+manyN b.S) t
noncomputable def planR (most:Int) (L:List Br):Int:=if most<1 then 1 else planE most 0 L
theorem elemB:Elem Tryd.prog 25 35 3 40:=elem_of Tryd.underlying25 (z:= .agg #[.int .i64 0,.int .i64 0,.slice none 0 0]) (by kernel_rfl) rfl (by decide)
set_option maxRecDepth 100000
set_option maxHeartbeats 3200000 in
theorem plan_any (most:Int) (a:Option Addr) (n c:Nat) (L:List Bu) (w:World) (hn:L.length=n) (hl:n≤100000) (hL:Seq enBu 3 w a L) (hok: ∀x∈L,BuOk w x) (hsm: ∀x∈L,Small x.b):
 Calls Tryd.prog 16 #[.int .i64 most,.slice a n c] w fun e w'=>Below w.heap.size w w'∧ ∃v E,e= .returned (.tuple #[v,.int .i64 E])∧E=planR most (L.map Bu.b)∧(E≠0→v= .slice none 0 0)∧
  (E=0→ ∃D:List Bu,D.map Bu.b=planL 0 (L.map Bu.b)∧w'.ownsRow w.heap.size 35 3 v n (flat enBu D)∧ ∀d∈D,BuOk w' d):=by
 by_cases hm:most<1
 ·have t0:decide (most<1)=true:=decide_eq_true hm
  have HX:=Lib.hid (show(1:Int)=planR most (L.map Bu.b)from(if_pos hm).symm);clear hL hok hsm hm
  go_enter Tryd.func16,Tryd.ntmps16
  go_wp2_with fail
  go_ret2
  exact⟨Below.refl _ _,_,1,rfl,HX.out,fun _=>rfl,fun h=>by cases h⟩
 ·have t0:decide (most<1)=false:=decide_eq_false hm
  have HX:=Lib.hid (show planE most 0 (L.map Bu.b)=planR most (L.map Bu.b)from(if_neg hm).symm);have HL:=Lib.hid hL;have HN:=Lib.hid hn;have HO:=Lib.hid hok;have HSm:=Lib.hid hsm;have HM:=Lib.hid hm;clear hL hn hok hsm hm
  go_enter Tryd.func16,Tryd.ntmps16
  go_wp2_with fail
  go_loopw [6,7,17] (fun out en i wr=> ∃(q:Nat) (e:Int) (D:List Bu),q≤n∧i= .int .i64 q∧en= .int .i64 e∧Hid (0≤e∧e≤1080000∧planE most e ((L.map Bu.b).drop q)=planE most 0 (L.map Bu.b)∧D.map Bu.b++planL e ((L.map Bu.b).drop q)=planL 0 (L.map Bu.b)∧D.length=q)∧
   wr.ownsRow w.heap.size 35 3 out q (flat enBu D)∧Hid (∀d∈D,BuOk wr d∧ ∀b o,d.a=some ⟨b,o,none⟩→out.ownBlock≠some b∧b<wr.heap.size)∧Below w.heap.size w wr) (fun _ _ i _=>n-(intOf i).toNat)
  case atStart=>exact⟨0,0,[],by omega,rfl,rfl,Lib.hid ⟨by decide,by decide,rfl,rfl,rfl⟩,World.ownsRow_nil _ _ _ _,Lib.hid (fun d h=>by cases h),Below.refl _ _⟩
  case round=>
   obtain⟨q,e,D,hq,rfl,rfl,HE,hown,HD,hb⟩:=hrel;by_cases hqn:q<n
   ·have t1:decide (q<n)=true:=decide_eq_true hqn
    obtain⟨x,hx⟩: ∃x,L[q]? =some x:=⟨_,List.getElem?_eq_getElem (by rw[HN.out];exact hqn)⟩;obtain⟨b0,o0,rfl,hlt,hc⟩:=(HL.out.below (Nat.le_refl _) hb) q x hx;have k0:(0:Int)≤(q:Int):=Int.natCast_nonneg _;have k1:(q:Int)<(n:Int):=by omega
    have c0:=hc 0 _ rfl;have c1:=hc 1 _ rfl;have c2:=hc 2 _ rfl;rw[off_eq]at c0 c1 c2;rw[Nat.add_zero]at c0;obtain⟨hsq,hcap⟩:=HO.out x (List.mem_of_getElem? hx);obtain⟨h8,h5⟩:=HSm.out x (List.mem_of_getElem? hx);have HXX:=Lib.hid hx
    have hdr:(L.map Bu.b).drop q=x.b::(L.map Bu.b).drop (q+1):=by
     rw[List.drop_eq_getElem_cons (by rw[List.length_map,HN.out];exact hqn)]
     congr 1
     rw[List.getElem_map];have:=List.getElem?_eq_some_iff.1 hx;rw[this.2]
    have HDR:=Lib.hid hdr;obtain⟨⟨pid,at_,S⟩,sa,sc⟩:=x;dsimp only at c0 c1 c2 hsq hcap h8 h5;have hbk:=Blk.new wr 55 #[.int .i64 pid,.int .i64 at_,.slice sa S.length sc];obtain⟨ns,hns⟩: ∃ns,S.length=ns:=⟨_,rfl⟩;rw[hns]at hbk c2 hcap h8;clear hc hx hdr;have k1:=right_any pid at_ (wr.alloc (.cells #[.int .i64 pid,.int .i64 at_,.slice sa ns sc] 55));have hb1:=hb.alloc hb.size (.cells #[.int .i64 pid,.int .i64 at_,.slice sa ns sc] 55);have hE1:planE most 0 (L.map Bu.b)=planE most e (⟨pid,at_,S⟩::(L.map Bu.b).drop (q+1)):=by rw[←HDR.out,HE.out.2.2.1]
    rw[planE]at hE1;by_cases hr:rightP pid at_
    ·rw[decide_eq_true hr]at k1
     rw[if_neg (by simpa using hr)]at hE1;have hsq1:=(hsq.below (Nat.le_refl _) hb).below (Nat.le_refl _) ((Below.refl wr.heap.size wr).alloc (Nat.le_refl _) (.cells #[.int .i64 pid,.int .i64 at_,.slice sa ns sc] 55));have km:=many_any sa ns sc S _ hns (by omega) hcap hsq1 (fun s hs=>by have:=h5 s hs;omega);have hNB:=manyN_le h5;rw[hns]at hNB;obtain⟨F,hF⟩: ∃F,manyE S=F:=⟨_,rfl⟩;obtain⟨N,hNN⟩: ∃N,manyN S=N:=⟨_,rfl⟩;rw[hF,hNN]at km hE1;rw[hNN]at hNB;have hN3:N≤30000:=by omega
     have HR:=Lib.hid hr;have HFN:=Lib.hid (And.intro hF hNN)
     have hmx: ∀(ts:Array TypeId) (ty:TypeId) (V:World),(Builtin.max_ ts ty #[.int .i64 at_,.int .i64 e]).run Tryd.prog V= .ok (.int .i64 (max at_ e)) V:=fun ts ty V=>by
      rw[run_max_int2]
      congr 2
      split<;>omega
     obtain⟨m,hmm⟩: ∃m,max at_ e=m:=⟨_,rfl⟩;rw[hmm]at hmx hE1;have HMM:=Lib.hid hmm;clear hr hF hNN hNB hmm;by_cases hF0:F=0
     ·subst hF0
      rw[if_neg (by decide)]at hE1;by_cases hmo:most<(N:Int)
      ·have t3:decide (most<(N:Int))=true:=decide_eq_true hmo
       rw[if_pos hmo]at hE1;have HE1:=Lib.hid hE1;clear hE1 hmo
       go_wp2_with fail
       (with_reducible refine(k1).mono ?_);rintro e1 W1 ⟨rfl,rfl⟩
       go_wp2_with fail
       (with_reducible refine(km).mono ?_);rintro e1 W2 ⟨rfl,hb2⟩
       have hb3:=hb1.trans (hb2.mono hb1.size);have hbk2:=Blk.below hbk hb2 (Blk.lt hbk);have d0:=Blk.cell (hbk2) 0 (v:= .int .i64 pid) rfl;have d1:=Blk.cell (hbk2) 1 (v:= .int .i64 at_) rfl;have d2:=Blk.cell (hbk2) 2 (v:= .slice sa ns sc) rfl
       go_wp2_with fail
       go_ret2
       exact⟨hb3,_,17,rfl,by rw[←HX.out,HE1.out],fun _=>rfl,fun h=>by cases h⟩
      ·have t3:decide (most<(N:Int))=false:=decide_eq_false hmo
       rw[if_neg hmo]at hE1;by_cases hm1:1048576<m
       ·have t4:decide (1048576<m)=true:=decide_eq_true hm1
        rw[if_pos hm1]at hE1;have HE1:=Lib.hid hE1;clear hE1 hmo hm1
        go_wp2_with fail
        (with_reducible refine(k1).mono ?_);rintro e1 W1 ⟨rfl,rfl⟩
        go_wp2_with fail
        (with_reducible refine(km).mono ?_);rintro e1 W2 ⟨rfl,hb2⟩
        have hb3:=hb1.trans (hb2.mono hb1.size);have hbk2:=Blk.below hbk hb2 (Blk.lt hbk);have d0:=Blk.cell (hbk2) 0 (v:= .int .i64 pid) rfl;have d1:=Blk.cell (hbk2) 1 (v:= .int .i64 at_) rfl;have d2:=Blk.cell (hbk2) 2 (v:= .slice sa ns sc) rfl
        go_wp2_with fail
        go_ret2
        exact⟨hb3,_,15,rfl,by rw[←HX.out,HE1.out],fun _=>rfl,fun h=>by cases h⟩
       ·have t4:decide (1048576<m)=false:=decide_eq_false hm1
        rw[if_neg hm1]at hE1;have HE1:=Lib.hid hE1;clear hE1 hmo
        go_wp2_with fail
        (with_reducible refine(k1).mono ?_);rintro e1 W1 ⟨rfl,rfl⟩
        go_wp2_with fail
        (with_reducible refine(km).mono ?_);rintro e1 W2 ⟨rfl,hb2⟩
        have hb3:=hb1.trans (hb2.mono hb1.size);have hbk2:=Blk.below hbk hb2 (Blk.lt hbk);have d0:=Blk.cell (hbk2) 0 (v:= .int .i64 pid) rfl;have d1:=Blk.cell (hbk2) 1 (v:= .int .i64 at_) rfl;have d2:=Blk.cell (hbk2) 2 (v:= .slice sa ns sc) rfl
        go_wp2_with fail
        have hns1:1≤ns:=by
         have h1:manyE S=if S.length=0 then 18 else firstE S:=rfl;rw[HFN.out.1,hns]at h1;by_cases hz:ns=0
         ·rw[if_pos hz]at h1;cases h1
         ·omega
        have hsq2:=hsq1.below (Nat.le_refl _) hb2;obtain⟨s0,hs0⟩: ∃s,S[0]? =some s:=⟨_,List.getElem?_eq_getElem (by rw[hns];exact hns1)⟩;obtain⟨bs,os,rfl,hlb,_⟩:=hsq2 0 s0 hs0;clear hs0 d0 d1 d2;have f0:=fun pX=>Blk.cell (blk_ext (hbk2) pX) 0 (v:= .int .i64 pid) rfl;have f2:=fun pX=>Blk.cell (blk_ext (hbk2) pX) 2 (v:= .slice (some ⟨bs,os,none⟩) ns sc) rfl;have hsz2:=hb2.size;refine Go.Proofs.YtibjkhepedfpiaaDoor.Rg.region_new [(6,newR 9 1 ns W2.heap.size (flat enS S)),(7,newA (fun u=> #[.int .i64 pid,.int .i64 m,u]) 9 1 ns W2.heap.size (flat enS S)),(8,newSA 35 (fun u=> #[.int .i64 pid,.int .i64 m,u]) 9 1 ns W2.heap.size (flat enS S))] 9 (by kernel_rfl) (by kernel_rfl) (by kernel_rfl) (lk_cons newR_inh (lk_cons newA_inh (lk_cons newSA_inh lk_nil))) (lk_cons newR_mono (lk_cons newA_mono (lk_cons newSA_mono lk_nil))) ?_;intro σ hσ;simp only[List.take_succ_cons,List.take_zero,List.drop_succ_cons,List.drop_zero];refine Go.Proofs.YtibjkhepedfpiaaDoor.Rg.wpN_take 6 (by kernel_rfl) (by kernel_rfl) (by kernel_rfl) ?_;simp only[List.take_succ_cons,List.take_zero,List.drop_succ_cons,List.drop_zero]
        repeat (go_big_quiet_step (fail))
        refine wpQuiet_nil ?_;refine wpN_sp _ rfl (by kernel_rfl) (spAt_app0 _ _ rfl elemS rfl rfl (by rw[flat_length enS_len,hns]) (fun p=>seq_news enS_len (hsq2.below (Nat.le_refl _) (below_ext W2 p))) (by intro u hu;simp only[flat,enS,List.mem_flatMap,List.mem_singleton]at hu;obtain⟨_,_,rfl⟩:=hu;rfl) (by omega) (by unfold maxLen;omega) (Nat.le_refl _)) ?_;simp only[Act.put,List.setIfInBounds_toArray,List.set_cons_zero,List.set_cons_succ];refine wpN_sp _ rfl (by kernel_rfl) (spAt_agg 6 rfl (by kernel_rfl) (by intro w0 ao c hv;rw[hv];go_simp)) ?_;simp only[Act.put,List.setIfInBounds_toArray,List.set_cons_zero,List.set_cons_succ];refine wpN_sp _ rfl (by kernel_rfl) (spAt_newSA 7 rfl (by kernel_rfl) (Nat.le_refl _) (by intro w0 u hu;go_simp)) ?_;simp only[Act.put,List.setIfInBounds_toArray,List.set_cons_zero,List.set_cons_succ];refine wpN_nil ?_;rintro w9 ⟨pq,rfl⟩ hp;obtain⟨g9,u,hg9,hge,hb9,hown9⟩:=hp 8 _ rfl;rw[hg9];clear hp hσ;obtain⟨au,cu,rfl,hcu⟩:=own_cap hown9;have hbq:=below_ext W2 pq;have hb4:=hb3.trans (hbq.mono (by have:=hb3.size;omega));have hbo:Below wr.heap.size wr (ext W2 pq):=(((Below.refl wr.heap.size wr).alloc (Nat.le_refl _) (.cells #[.int .i64 pid,.int .i64 at_,.slice (some ⟨bs,os,none⟩) ns sc] 55)).trans (hb2.mono (by simp))).trans (hbq.mono (by simp at hsz2;omega));have hown0:=own_below hown hbo;have hsz0:=hbo.size;have hw2:wr.heap.size<W2.heap.size:=by simp at hsz2;omega
        have hlto:=fun r h=>(hown.lt r h).2;have hbs:=hb4.size;refine wpList_appG rfl _ _ rfl elemB rfl hown0 rfl rfl (blk_news hb9) (by simp[Value.oneCell']) (by omega) (by unfold maxLen;omega) (by have:=hb.size;omega) ?_;intro v9 w8 hownN hgN hatN;have hb8:=hb4.grown hgN hbs (fun r er=>(hown.lt r er).1);have hs9:=own_seq (en:=enS) enS_len hown9 hns;have hbo8: ∀g,g<(ext W2 pq).heap.size→u6.ownBlock≠some g→w8.heap[g]? =(ext W2 pq).heap[g]? :=fun g h1 h2=>hgN.block g h1 (fun h=>h2 h.symm)
        have HDN:=Lib.hid (show ∀d∈D++[(⟨⟨pid,m,S⟩,au,cu⟩:Bu)],BuOk w8 d∧ ∀b o,d.a=some ⟨b,o,none⟩→v9.ownBlock≠some b∧b<w8.heap.size from by
         intro d hd;rcases List.mem_append.1 hd with hd|hd
         ·obtain⟨h1,h2⟩:=HD.out d hd
          have h1':=h1.below (Nat.le_refl _) hbo;refine⟨⟨seq_only h1'.s hgN (fun b o e=>(h2 b o e).1),h1'.c⟩,fun b o e=>?_⟩;obtain⟨h3,h4⟩:=h2 b o e;refine⟨fun h=>?_,by have:=hgN.size;omega⟩;rcases hatN with e1|e1
          ·exact h3 (e1▸h)
          ·rw[e1]at h;injection h with h;omega
         ·simp only[List.mem_singleton]at hd
          subst hd;have hub:=fun b o e=>(hown9.lt b (by rw[show au=some ⟨b,o,none⟩from e];rfl));refine⟨⟨seq_only hs9 hgN (fun b o e h=>by have:=(hub b o e).1;have:=hlto b h;omega),by show S.length≤cu;omega⟩,fun b o e=>?_⟩;have:=hub b o e;refine⟨fun h=>?_,by have:=hgN.size;omega⟩;rcases hatN with e1|e1
          ·have:=hlto b (e1▸h);omega
          ·rw[e1]at h;injection h with h;omega)
        have hflat:flat enBu D++[.int .i64 pid,.int .i64 m,.slice au ns cu]=flat enBu (D++[⟨⟨pid,m,S⟩,au,cu⟩]):=by
         rw[flat_app];simp[flat,enBu,hns]
        rw[show(#[.int .i64 pid,.int .i64 m,.slice au ns cu]:Array Value).toList=[.int .i64 pid,.int .i64 m,.slice au ns cu]from rfl,hflat]at hownN
        have HEN:=Lib.hid (show 0≤m+N∧m+N≤1080000∧planE most (m+N) ((L.map Bu.b).drop (q+1))=planE most 0 (L.map Bu.b)∧(D++[(⟨⟨pid,m,S⟩,au,cu⟩:Bu)]).map Bu.b++planL (m+N) ((L.map Bu.b).drop (q+1))=planL 0 (L.map Bu.b)∧(D++[(⟨⟨pid,m,S⟩,au,cu⟩:Bu)]).length=q+1 from by
         obtain⟨h1,h2,h3,h4,h5⟩:=HE.out;have:=HMM.out;refine⟨by omega,by omega,HE1.out.symm,?_,by simp[h5]⟩;rw[←h4,HDR.out,planL];dsimp only;rw[HMM.out,HFN.out.2,List.map_append,List.append_assoc];rfl)
        clear hown0 hb9 hown9 hs9 hbo8 hgN hatN hlto hb4 hbo hb3 hbk2 hsq1 hsq2 hsq hflat hbq;have hm0:(0:Int)≤m:=by have:=HR.out.2.2.1;have:=HMM.out;omega
        have hN0:(0:Int)≤(N:Int):=Int.natCast_nonneg _;have hN9:(N:Int)≤30000:=by omega
        have hmb:m≤1048576:=by omega
        go_wp2_with fail
        go_roundw
        case rel=>exact⟨q+1,m+N,_,by omega,by go_num,rfl,HEN,hownN,HDN,hb8⟩
        case measure=>simp[intOf];omega
     ·have t2:(F==0)=false:=beq_eq_false_iff_ne.2 hF0
      rw[if_pos hF0]at hE1;have HE1:=Lib.hid hE1;have HF0:=Lib.hid hF0;clear hE1 hF0
      go_wp2_with fail
      (with_reducible refine(k1).mono ?_);rintro e1 W1 ⟨rfl,rfl⟩
      go_wp2_with fail
      (with_reducible refine(km).mono ?_);rintro e1 W2 ⟨rfl,hb2⟩
      have hb3:=hb1.trans (hb2.mono hb1.size);have hbk2:=Blk.below hbk hb2 (Blk.lt hbk);have d0:=Blk.cell (hbk2) 0 (v:= .int .i64 pid) rfl;have d1:=Blk.cell (hbk2) 1 (v:= .int .i64 at_) rfl;have d2:=Blk.cell (hbk2) 2 (v:= .slice sa ns sc) rfl
      go_wp2_with fail
      go_ret2
      exact⟨hb3,_,F,rfl,by rw[←HX.out,HE1.out],fun _=>rfl,fun h=>absurd h HF0.out⟩
    ·rw[decide_eq_false hr]at k1
     rw[if_pos hr]at hE1;have HE1:=Lib.hid hE1;clear hr hE1
     go_wp2_with fail
     (with_reducible refine(k1).mono ?_);rintro e1 W1 ⟨rfl,rfl⟩
     have hb3:=hb1
     go_wp2_with fail
     go_ret2
     exact⟨hb3,_,15,rfl,by rw[←HX.out,HE1.out],fun _=>rfl,fun h=>by cases h⟩
   ·obtain rfl:q=n:=by omega
    have t1:decide (q<q)=false:=by simp
    have HD0:=Lib.hid (show(L.map Bu.b).drop q=[]from List.drop_of_length_le (by rw[List.length_map,HN.out];exact Nat.le_refl _))
    go_wp2_with fail
    go_ret2
    refine⟨hb,_,0,rfl,?_,fun h=>absurd rfl h,fun _=>⟨D,?_,hown,fun d hd=>(HD.out d hd).1⟩⟩
    ·have:=HE.out.2.2.1
     rw[HD0.out,planE]at this;rw[←HX.out,←this]
    ·have:=HE.out.2.2.2.1
     rw[HD0.out,planL,List.append_nil]at this;exact this
end Go.Proofs.YtibjkhepedfpiaaDoor.SlS
