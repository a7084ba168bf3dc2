import Derived.Test.YtibjkhepedfpiaaGreatDoorSgRdW
import Derived.Deep.Cut
import Derived.Deep.CutRange
import Derived.Deep.DeepCutAuto
namespace Go.Proofs.YtibjkhepedfpiaaGreatDoor.RdV
open Go Go.RowKit Q Mem Rg Ap ApG St CrB PaK PkP PkY PyD RdP RdW
set_option maxRecDepth 100000
theorem own_only {W W':World} {g n sz B:Nat} {e:TypeId} {v:Value} {xs:List Value} (h:W.ownsRow B e sz v n xs) (hg:W.grownBy W' (some g)) (hv:v.ownBlock≠some g):W'.ownsRow B e sz v n xs:=
 h.kept hg (by cases ho:v.ownBlock with|none=>exact Or.inl rfl|some r=>exact Or.inr (fun e=>hv (ho.trans e)))
theorem ext_all (b:ByteArray):b.extract 0 b.size=b:=by
 apply bl_inj;unfold bl;simp
theorem one_lp {st:Rs} {i:Nat} {cv co:Int} (h:Lp st i cv) (start:Bool) {body:ByteArray} (hb:body.size≤184) (hco:co=((st.n%16:Nat):Int)):Lp (rdOne st i start body) (i+1) co:=by
 obtain⟨_,⟨h1,h2,h3⟩,h4,_⟩:=h;have hr:=rs_len body;unfold rdOne
 cases start with
 |true=>
  rw[if_pos rfl];refine⟨Or.inr ⟨Nat.succ_pos _,by rw[hco];rfl⟩,⟨?_,?_,?_⟩,by show st.n+1≤i+1;omega,by show(str _).size≤5000;rw[str_size];omega⟩
  ·dsimp only
   split<;>simp<;>omega
  ·dsimp only
   split<;>simp<;>omega
  ·dsimp only
   split<;>simp<;>omega
 |false=>
  rw[if_neg (by decide)];refine⟨Or.inr ⟨Nat.succ_pos _,by rw[hco];rfl⟩,⟨?_,?_,?_⟩,by show st.n+1≤i+1;omega,?_⟩
  ·dsimp only
   split<;>simp<;>omega
  ·dsimp only
   split<;>simp<;>omega
  ·dsimp only
   split<;>simp<;>omega
  ·dsimp only
   split
   ·exact Nat.zero_le _
   ·rename_i hd
    have:=not_done (by simpa using hd);omega
set_option maxHeartbeats 6400000 in
theorem read_any (x:Int) (P:List Pkt) (w:World) (hP: ∀p∈P,PkOk p) (hN:P.length≤2000000) (hgood: ∀i p,P[i]? =some p→p.pid=x→RdW.Good (rdUp x P i) p) (hend:(rdUp x P P.length).held=nob):
 Calls Tryz.prog 14 #[.string (str (airL P)),.int .i64 x] w (GotOk w (rdUp x P P.length)):=by
 have HX:=Lib.hid (fun i p (h:P[i]? =some p)=>air_ext hP h);have HP:=Lib.hid hP;have HG:=Lib.hid hgood;have HE:=Lib.hid hend;have hsz:(str (airL P)).size=188*P.length:=by rw[str_size,airL_len hP]
 obtain⟨R,hR⟩: ∃R:Ending→World→Prop,R=GotOk w (rdUp x P P.length):=⟨_,rfl⟩;rw[←hR];have HR:=Lib.hid hR;obtain⟨s,hs⟩: ∃s,str (airL P)=s:=⟨_,rfl⟩;rw[hs]at hsz HX ⊢;obtain⟨N,hNe⟩: ∃N,P.length=N:=⟨_,rfl⟩;rw[hNe]at hsz hN HE HR;have HN:=Lib.hid hNe;have q0:(s.size:Int)%188=0:=by omega
 have q1:(s.size:Int).tmod 188=0:=by rw[Int.tmod_eq_emod_of_nonneg (by omega)];exact q0
 have HS:=Lib.hid hsz;have hs9:s.size≤376000000:=by omega
 clear hs hR hP hgood hend hNe hsz
 go_enter Tryz.func14,Tryz.ntmps14
 go_wp2_with fail
 have HI:=Lib.hid (show RdM w ((w.alloc (.cells #[.slice none 0 0,.slice none 0 0,.slice none 0 0,.int .i64 0,.bool false] 43)).alloc (.cells #[.slice none 0 0,.slice none 0 0,.slice none 0 0,.int .i64 0,.bool true] 43)) (.slice none 0 0) (.slice none 0 0) (.slice none 0 0) [] [] [] 0 from
  ⟨Blk.newAt _ _ _ (by simp),Blk.alloc (Blk.new _ _ _) _,World.ownsRow_nil _ _ _ _,World.ownsRow_nil _ _ _ _,World.ownsRow_nil _ _ _ _,fun r h=>by simp[Value.ownBlock]at h,((Below.refl _ _).alloc (Nat.le_refl _) _).alloc (by simp) _⟩)
 go_loopw [6,7,8,9] (fun hv fv cv iv wr=> ∃(i:Nat) (c:Int) (v0 v1 v2:Value),i≤N∧hv= .string (rdUp x P i).held∧fv= .int .i64 (rdUp x P i).fr∧cv= .int .i64 c∧iv= .int .i64 i∧Hid (Lp (rdUp x P i) i c)∧RdM w wr v0 v1 v2 (rdUp x P i).T (rdUp x P i).sl (rdUp x P i).en (rdUp x P i).n) (fun _ _ _ iv _=>N-(intOf iv).toNat)
 case atStart=>exact⟨0,-1,_,_,_,by omega,rfl,rfl,rfl,rfl,Lib.hid ⟨Or.inl ⟨rfl,rfl,rfl⟩,by simp[rdUp],by simp[rdUp],by show nob.size≤5000;decide⟩,HI.out⟩
 case round=>
  clear HI;obtain⟨i,cv,v0,v1,v2,hi,rfl,rfl,rfl,rfl,HL,HM⟩:=hrel;by_cases hiN:i<N
  ·have t0:decide (188*(i:Int)+188≤(s.size:Int))=true:=decide_eq_true (by have:=HS.out;omega)
   obtain⟨p,hp⟩: ∃p,P[i]? =some p:=⟨_,List.getElem?_eq_getElem (by rw[HN.out];exact hiN)⟩;have hex:=HX.out i p hp;have hpo:=HP.out p (List.mem_of_getElem? hp);have HUP:=Lib.hid (show rdUp x P (i+1)=if p.pid=x then rdOne (rdUp x P i) i p.start p.body else rdUp x P i from by rw[rdUp,hp]);have hg:=HG.out i p hp
   have kd: ∀V,Calls Tryz.prog 42 #[.string (str (pkBy p))] V fun e w'=>e= .returned (.tuple #[.agg #[.int .i64 p.pid,.bool p.start,.int .i64 p.count,.bool false,.string p.body],.int .i64 0])∧Below V.heap.size V w':=fun V=>by
    have k:=rdec_any p.pid.toNat p.count.toNat p.start p.body V (by have:=hpo.pid;omega) (by have:=hpo.count;omega) hpo.body;rw[show((p.pid.toNat:Nat):Int)=p.pid by have:=hpo.pid;omega,show((p.count.toNat:Nat):Int)=p.count by have:=hpo.count;omega]at k;exact k
   have hb184:p.body.size=184∨p.body.size=183:=hpo.body;have hco:=hpo.count;obtain⟨st,hst⟩: ∃st,rdUp x P i=st:=⟨_,rfl⟩;rw[hst]at HL HM HUP hg ⊢;obtain⟨X,hX⟩: ∃X,str (pkBy p)=X:=⟨_,rfl⟩;rw[hX]at kd hex;obtain⟨pid,start,co,body⟩:=p;dsimp only at kd HUP hg hb184 hco;clear hp hpo hX hst
   have hsl: ∀V:World,(Instr.slice 9 (.string s) (some (.int .i64 (188*(i:Int)))) (some (.int .i64 (188*(i:Int)+188))) none).run Tryz.prog V= .ok (.string X) V:=fun V=>by
    have:=HS.out;rw[run_slice_string V 9 s .i64 .i64 (188*(i:Int)) (188*(i:Int)+188) Tryz.underlying9 (by omega) (by omega) (by omega),show(188*(i:Int)).toNat=188*i by omega,show(188*(i:Int)+188).toNat=188*i+188 by omega,hex]
   have HMB:=HM.be.size;clear hex
   go_wp2_with fail
   (with_reducible refine(kd _).mono ?_);rintro e1 W1 ⟨rfl,hb1⟩
   have HXX:=Lib.hid (show RdX w (W1.alloc (.cells #[.int .i64 pid,.bool start,.int .i64 co,.bool false,.string body] 104)) v0 v1 v2 st.T st.sl st.en st.n W1.heap.size #[.int .i64 pid,.bool start,.int .i64 co,.bool false,.string body]from⟨(HM.grown hb1).grown ((Below.refl _ _).alloc (Nat.le_refl _) _),Blk.new _ _ _⟩);clear kd hsl HM hb1 HMB;by_cases hx:pid=x
   ·subst hx
    have hgd:=hg rfl;rw[if_pos rfl]at HUP;obtain⟨T0,S0,E0,hv,fr,n⟩:=st;dsimp only at HL HXX HUP hgd ⊢;have HCO:=Lib.hid (show co=(((n+1-1)%16:Nat):Int)from hgd.cnt);have t2:(pid !=pid)=false:=by simp
    clear hg;have y0:=Blk.cell (HXX.out.b) 0 (v:= .int .i64 pid) rfl;have y1:=Blk.cell (HXX.out.b) 1 (v:= .bool start) rfl;have y2:=Blk.cell (HXX.out.b) 2 (v:= .int .i64 co) rfl;have y3:=Blk.cell (HXX.out.b) 3 (v:= .bool false) rfl;have y4:=Blk.cell (HXX.out.b) 4 (v:= .string body) rfl;have m3:=Blk.cell HXX.out.m.out 3 (v:= .int .i64 (n:Int)) rfl;have fm3:=Blk.frozen HXX.out.m.out 3;have hn63:n≤2000000:=by have:=HL.out.n;dsimp only at this;omega
    have tb:(body.toList==[])=false:=by
     refine beq_eq_false_iff_ne.2 (fun e=>?_);have h9:body.data.toList.length=0:=by rw[←ByteArray.toList_eq,e];rfl
     rw[Array.length_toList]at h9;have h10:body.size=0:=h9;omega
    have HGD:=Lib.hid hgd;have hgcnt:=Lib.hid (show co=((n%16:Nat):Int)from hgd.cnt);have HT:=Lib.hid (show RdX w ((W1.alloc (.cells #[.int .i64 pid,.bool start,.int .i64 co,.bool false,.string body] 104)).setCell ⟨w.heap.size+1,3,none⟩ (.int .i64 ((n:Int)+1))) v0 v1 v2 T0 S0 E0 (n+1) W1.heap.size #[.int .i64 pid,.bool start,.int .i64 co,.bool false,.string body]from HXX.out.many);clear hgd
    go_upto_region 14 with fail
    obtain⟨W2,hW2⟩: ∃W2,((W1.alloc (.cells #[.int .i64 pid,.bool start,.int .i64 co,.bool false,.string body] 104)).setCell ⟨w.heap.size+1,3,none⟩ (.int .i64 ((n:Int)+1)))=W2:=⟨_,rfl⟩;rw[hW2]at HT ⊢;clear hW2 HXX y0 y1 y2 y3 y4 m3 fm3;have y0:=Blk.cell (HT.out.b) 0 (v:= .int .i64 pid) rfl;have y1:=Blk.cell (HT.out.b) 1 (v:= .bool start) rfl;have y2:=Blk.cell (HT.out.b) 2 (v:= .int .i64 co) rfl;have y3:=Blk.cell (HT.out.b) 3 (v:= .bool false) rfl;have y4:=Blk.cell (HT.out.b) 4 (v:= .string body) rfl
    go_cut [8,79]from 52 to 80 (fun s8 s79 wx=>s8= .int .i64 cv∧s79= .bool false∧W2=wx)
    case first=>
     rcases HL.out.c with⟨h0,hc,hv0⟩|⟨h0,hc⟩
     ·dsimp only at h0 hc
      subst hc;have hcx:co=0:=by rw[HCO.out,h0];rfl
      have hc0:(co !=0)=false:=by rw[hcx];rfl
      clear hcx h0 hv0
      go_wp2_with fail
      go_meet
      case rel=>exact⟨rfl,rfl,rfl⟩
     ·dsimp only at h0 hc
      have hq0:decide (0≤cv)=true:=decide_eq_true (by omega);have hq9:cv≤15:=by omega
      have hq8:0≤cv:=by omega
      have hc1:(co !=(cv+1)%16)=false:=by
       have:co=(cv+1)%16:=by rw[HCO.out,hc];omega
       simp[this]
      have hc2:(co !=(cv+1).tmod 16)=false:=by rw[Int.tmod_eq_emod_of_nonneg (by omega)];exact hc1
      clear hc h0
      go_wp2_with fail
      go_meet
      case rel=>exact⟨rfl,rfl,rfl⟩
    case rest=>
    obtain⟨rfl,rfl,rfl⟩:=hcut;have hr9:b0 body<256:=BiH.at0_lt body 0;obtain⟨r,hr⟩: ∃r,b0 body=r:=⟨_,rfl⟩;rw[hr]at hr9;have HB0:=Lib.hid hr;obtain⟨MB,hMB⟩: ∃x,(if start then body.extract 1 (r+1)else body)=x:=⟨_,rfl⟩;obtain⟨RB,hRB⟩: ∃x,(if start then body.extract (r+1) body.size else nob)=x:=⟨_,rfl⟩;have HMB:=Lib.hid hMB;have HRB:=Lib.hid hRB
    have HH:=Lib.hid (show hd ⟨T0,S0,E0,hv,fr,n⟩ start body=hv++MB from by
     unfold hd;rw[←hMB,hr])
    clear hr hMB hRB
    go_upto_if 86 with fail
    go_cut [12,13] (fun s12 s13 wx=>s12= .string MB∧s13= .string RB∧W2=wx)
    case first=>
     cases start with
     |true=>
      obtain⟨g1,_,_,_⟩:=good_start HGD.out rfl;dsimp only at g1;rw[HB0.out]at g1;have i0: ∀V:World,(Instr.index 9 (.string body) (.int .i64 0)).run Tryz.prog V= .ok (.int .u8 (r:Int)) V:=fun V=>by rw[←HB0.out];exact idx_at body 0 (by omega) V
      have hs1: ∀V:World,(Instr.slice 9 (.string body) (some (.int .i64 ((r:Int)+1))) none none).run Tryz.prog V= .ok (.string (body.extract (r+1) body.size)) V:=fun V=>by
       rw[run_slice_string_l V 9 body Tryz.underlying9 .i64 ((r:Int)+1) (by omega) (by omega),show((r:Int)+1).toNat=r+1 by omega]
      have hs2: ∀V:World,(Instr.slice 9 (.string body) (some (.int .i64 1)) (some (.int .i64 ((r:Int)+1))) none).run Tryz.prog V= .ok (.string (body.extract 1 (r+1))) V:=fun V=>by
       rw[run_slice_string V 9 body .i64 .i64 1 ((r:Int)+1) Tryz.underlying9 (by omega) (by omega) (by omega),show((r:Int)+1).toNat=r+1 by omega];rfl
      rw[show body.extract (r+1) body.size=RB by rw[←HRB.out,if_pos rfl]]at hs1;rw[show body.extract 1 (r+1)=MB by rw[←HMB.out,if_pos rfl]]at hs2;have z0:(r:Int)≤255:=by omega
      have t4:decide ((body.size:Int)<(r:Int)+1)=false:=decide_eq_false (by omega);clear g1
      go_wp2_with fail
      go_meet
      case rel=>exact⟨rfl,rfl,rfl⟩
     |false=>
      have e1:MB=body:=by rw[←HMB.out,if_neg (by decide)]
      have e2:RB=nob:=by rw[←HRB.out,if_neg (by decide)]
      have HE2:=Lib.hid (And.intro e1 e2);clear e1 e2
      go_wp2_with fail
      go_meet
      case rel=>exact⟨by rw[HE2.out.1],by rw[HE2.out.2],rfl⟩
    case rest=>
    obtain⟨rfl,rfl,rfl⟩:=hcut
    go_upto_region 26 with fail
    go_cut [12,110]from 105 to 111 (fun s12 s110 wx=>s12= .string MB∧s110= .bool false∧W2=wx)
    case first=>
     by_cases hh:hv=nob
     ·subst hh
      have hM0:MB=nob:=by
       cases start with
       |true=>rw[←HMB.out,if_pos rfl,←HB0.out];exact(good_start HGD.out rfl).2.1 rfl
       |false=>exact absurd rfl (good_cont HGD.out rfl (by dsimp only;omega)).1
      subst hM0
      go_wp2_with fail
      go_meet
      case rel=>exact⟨rfl,rfl,rfl⟩
     ·have tv:(hv.toList==[])=false:=by
       refine beq_eq_false_iff_ne.2 (fun e=>hh ?_);exact bl_nob.2 (by unfold bl;rw[←ByteArray.toList_eq,e])
      clear hh
      go_wp2_with fail
      go_meet
      case rel=>exact⟨rfl,rfl,rfl⟩
    case rest=>
    obtain⟨rfl,rfl,rfl⟩:=hcut;have hvs:hv.size≤5000:=HL.out.h
    have hMs:MB.size≤184:=by
     rw[←HMB.out]
     cases start with
     |true=>rw[if_pos rfl,ByteArray.size_extract];omega
     |false=>rw[if_neg (by decide)];omega
    go_upto_region 30 with fail
    obtain⟨H,hH⟩: ∃H,hv++MB=H:=⟨_,rfl⟩;have hHs:H.size≤5200:=by rw[←hH,ByteArray.size_append];omega
    rw[hH]at HH ⊢;have kw: ∀V,Calls Tryz.prog 43 #[.string H] V fun e w'=>e= .returned (.int .i64 (wh (bl H):Int))∧Below V.heap.size V w':=fun V=>whole_any H V (by omega);obtain⟨m,hm⟩: ∃m,wh (bl H)=m:=⟨_,rfl⟩;obtain⟨d,hd⟩: ∃d,done (bl H)=d:=⟨_,rfl⟩;have HD:=Lib.hid (show d=decide (0<m∧m≤H.size)from by rw[←hd];unfold done;rw[hm,bl_len]);have HDD:=Lib.hid hd;have hm9:m≤4098:=by rw[←hm];exact wh_le _
    rw[hm]at kw;have HMM:=Lib.hid hm;clear hH hvs hMs hd hm y0 y1 y2 y3 y4
    go_upto_region 31 with fail
    (with_reducible refine(kw _).mono ?_);rintro e1 W3 ⟨rfl,hb3⟩
    have HB:=Lib.hid (HT.out.grown hb3);clear kw hb3 HT
    go_upto_region 31 with fail
    go_cut [125]from 118 to 126 (fun s125 wx=>s125= .bool d∧W3=wx)
    case first=>
     have hd9:=HD.out;by_cases h0:0<m
     ·have x1:decide (0<m)=true:=decide_eq_true h0
      have x1':decide ((0:Int)<(m:Int))=true:=decide_eq_true (by omega);by_cases h1:m≤H.size
      ·have x2:decide (m≤H.size)=true:=decide_eq_true h1
       have HE:=Lib.hid (hd9.trans (decide_eq_true ⟨h0,h1⟩));clear hd9 h0 h1
       go_wp2_with fail
       go_meet
       case rel=>exact⟨by rw[HE.out],rfl⟩
      ·have x2:decide (m≤H.size)=false:=decide_eq_false h1
       have HE:=Lib.hid (hd9.trans (decide_eq_false (fun h=>h1 h.2)));clear hd9 h0 h1
       go_wp2_with fail
       go_meet
       case rel=>exact⟨by rw[HE.out],rfl⟩
     ·have x1:decide (0<m)=false:=decide_eq_false h0
      have x1':decide ((0:Int)<(m:Int))=false:=decide_eq_false (by omega);have HE:=Lib.hid (hd9.trans (decide_eq_false (fun h=>h0 h.1)));clear hd9 h0
      go_wp2_with fail
      go_meet
      case rel=>exact⟨by rw[HE.out],rfl⟩
    case rest=>
    obtain⟨rfl,rfl⟩:=hcut
    go_upto_if 125 with fail
    have hTl:T0.length≤400000000∧S0.length≤400000000∧E0.length≤400000000:=by
     have:=HL.out.l;dsimp only at this;omega
    have hTl0:=hTl.1;have hTl1:=hTl.2.1;have hTl2:=hTl.2.2;clear hTl;obtain⟨GH,hHE⟩: ∃x,(if d then nob else H)=x:=⟨_,rfl⟩;have HHE:=Lib.hid hHE;clear hHE
    go_cut [6]from 126 to 157 (fun s6 wx=>s6= .string GH∧ ∃u0 u1 u2,Hid (RdX w wx u0 u1 u2 (T0++if d then[H.extract 0 m]else[]) (S0++if d then[fr]else[]) (E0++if d then[(i:Int)]else[]) (n+1) W1.heap.size #[.int .i64 pid,.bool start,.int .i64 co,.bool false,.string body]))
    case first=>
     cases d with
     |false=>
      have HX9:=Lib.hid (show GH=H from HHE.out.symm)
      go_wp2_with fail
      go_meet
      case rel=>exact⟨by rw[HX9.out],v0,v1,v2,by simpa using HB⟩
     |true=>
      have HX9:=Lib.hid (show GH=nob from HHE.out.symm);obtain⟨hm0,hm1⟩:=of_decide_eq_true HD.out.symm
      go_upto_region 32 with fail
      go_cut [135]from 126 to 136 (fun s135 wx=>s135= .bool false∧W3=wx)
      case first=>
       by_cases h1:m<H.size
       ·have x1:decide (m<H.size)=true:=decide_eq_true h1
        have hi: ∀V:World,(Instr.index 9 (.string H) (.int .i64 (m:Int))).run Tryz.prog V= .ok (.int .u8 255) V:=fun V=>by
         have h2:=idx_at H m h1 V;rw[BiH.at0_at]at h2
         have h3:BiH.at0 H m=255:=by
          cases start with
          |true=>
           have h4:=(good_start HGD.out rfl).2.2.1 (by rw[HH.out];exact HDD.out);rw[HH.out,HMM.out]at h4;omega
          |false=>
           have h4:=(good_cont HGD.out rfl (by dsimp only;omega)).2 (by rw[HH.out];exact HDD.out) (by rw[HH.out,HMM.out];exact h1);rw[HH.out,HMM.out]at h4;exact h4
         rw[h3]at h2;exact h2
        clear h1
        go_wp2_with fail
        go_meet
        case rel=>exact⟨rfl,rfl⟩
       ·have x1:decide (m<H.size)=false:=decide_eq_false h1
        clear h1
        go_wp2_with fail
        go_meet
        case rel=>exact⟨rfl,rfl⟩
      case rest=>
      obtain⟨rfl,rfl⟩:=hcut
      have hsl: ∀V:World,(Instr.slice 9 (.string H) none (some (.int .i64 (m:Int))) none).run Tryz.prog V= .ok (.string (H.extract 0 m)) V:=fun V=>by
       rw[run_slice_string_h V 9 H Tryz.underlying9 .i64 (m:Int) (by omega) (by omega)];rfl
      obtain⟨X9,hX9⟩: ∃x,H.extract 0 m=x:=⟨_,rfl⟩;rw[hX9]at hsl;have HX10:=Lib.hid hX9;clear hX9
      go_wp2_with fail
      have c0:=fun pX=>Blk.cell (blk_ext (HB.out.m.out) pX) 0 (v:=v0) rfl;have c1:=fun pX=>Blk.cell (blk_ext (HB.out.m.out) pX) 1 (v:=v1) rfl;have c2:=fun pX=>Blk.cell (blk_ext (HB.out.m.out) pX) 2 (v:=v2) rfl;refine Go.Proofs.YtibjkhepedfpiaaGreatDoor.Rg.region_new [(5,newS 1 9 #[.string (X9)] 0)] 6 (by kernel_rfl) (by kernel_rfl) (by kernel_rfl) (lk_cons newS_inh lk_nil) (lk_cons newS_mono lk_nil) ?_;intro σ hσ;simp only[List.take_succ_cons,List.take_zero,List.drop_succ_cons,List.drop_zero];refine Go.Proofs.YtibjkhepedfpiaaGreatDoor.Rg.wpN_take 5 (by kernel_rfl) (by kernel_rfl) (by kernel_rfl) ?_;simp only[List.take_succ_cons,List.take_zero,List.drop_succ_cons,List.drop_zero]
      repeat (go_big_quiet_step (fail))
      refine wpQuiet_nil ?_;refine Go.Proofs.YtibjkhepedfpiaaGreatDoor.Rg.wpN_sp _ rfl (by kernel_rfl) (spAt_newS 1 9 #[.string (X9)] (Nat.zero_le _) (by intro w0;go_simp)) ?_;simp only[Act.put,List.setIfInBounds_toArray,List.set_cons_zero,List.set_cons_succ];refine Go.Proofs.YtibjkhepedfpiaaGreatDoor.Rg.wpN_nil ?_;rintro w9 ⟨pq,rfl⟩ hp9;obtain⟨g9,hg9,_,hb9⟩:=hp9 5 _ rfl;rw[hg9];have HA:=Lib.hid (HB.out.grown (below_ext W3 pq));have hza:=HA.out.m.be.size;clear hp9 hσ hg9 c0 c1 c2
      go_wp2_with (at_builtin;refine ApG.wpList_appG rfl _ _ rfl elemS rfl HA.out.m.o0 rfl rfl (blk_news hb9) (by simp[Value.oneCell']) (by omega) (by unfold maxLen;omega) hza ?_)
      intro y0 w8 hown8 hgr8 hloc8;obtain⟨ya,yc,rfl⟩:=own_form hown8;obtain⟨HC,hk8⟩:=HA.out.push0 hgr8 hown8 hloc8;have f0:=Blk.frozen (hk8) 0;have k0':=Blk.cell hk8 0 (v:=v0) rfl;have HCh:=Lib.hid HC;have k1:=Blk.cell (HC.m.out) 1 (v:=v1) rfl;have k2:=Blk.cell (HC.m.out) 2 (v:=v2) rfl;have HD:=Lib.hid (HC.grown ((Below.refl _ _).alloc (Nat.le_refl _) (.cells #[.int .i64 (fr)] 3)));have hzd:=HD.out.m.be.size;clear hown8 hgr8 hloc8 hk8 hb9 HA hza HC
      go_wp2_with (at_builtin;(refine ApG.wpList_appG rfl _ _ rfl elemI rfl HD.out.m.o1 rfl rfl (blk_news (Blk.newAt _ 3 #[.int .i64 (fr)] (by simp))) (by simp[Value.oneCell']) (by omega) (by unfold maxLen;omega) hzd ?_))
      intro y1 w7 hown7 hgr7 hloc7;obtain⟨za,zc,rfl⟩:=own_form hown7;obtain⟨HC7,hk7⟩:=HD.out.push1 hgr7 hown7 (by simpa using hloc7);have g0:=Blk.frozen (hk7) 0;have g1:=Blk.frozen (hk7) 1;have j0':=Blk.cell hk7 1 (v:=v1) rfl;have l2:=Blk.cell (HC7.m.out) 2 (v:=v2) rfl;have HE:=Lib.hid (HC7.grown ((Below.refl _ _).alloc (Nat.le_refl _) (.cells #[.int .i64 ((i:Int))] 3)));have hze:=HE.out.m.be.size;clear hown7 hgr7 hloc7 hk7 HD hzd HC7 HCh f0 k0' k1 k2
      go_wp2_with (at_builtin;refine ApG.wpList_appG rfl _ _ rfl elemI rfl HE.out.m.o2 rfl rfl (blk_news (Blk.newAt _ 3 #[.int .i64 ((i:Int))] (by simp))) (by simp[Value.oneCell']) (by omega) (by unfold maxLen;omega) hze ?_)
      intro y2 w6 hown6 hgr6 hloc6;obtain⟨xa,xc,rfl⟩:=own_form hown6;obtain⟨HC6,hk6⟩:=HE.out.push2 hgr6 hown6 (by simpa using hloc6);have o0:=Blk.frozen (hk6) 0;have o1:=Blk.frozen (hk6) 1;have o2:=Blk.frozen (hk6) 2;have i0':=Blk.cell hk6 2 (v:=v2) rfl;have HF:=Lib.hid HC6;clear hown6 hgr6 hloc6 hk6 HE hze HC6 g0 g1 j0' l2
      go_wp2_with fail
      go_meet
      case rel=>exact⟨by rw[HX9.out],_,_,_,by rw[HX10.out];exact HF⟩
    case rest=>
    obtain⟨rfl,u0,u1,u2,HC⟩:=hcut;obtain⟨T1,hT1⟩: ∃x,(T0++if d then[H.extract 0 m]else[])=x:=⟨_,rfl⟩;obtain⟨S1,hS1⟩: ∃x,(S0++if d then[fr]else[])=x:=⟨_,rfl⟩;obtain⟨E1,hE1⟩: ∃x,(E0++if d then[(i:Int)]else[])=x:=⟨_,rfl⟩;rw[hT1,hS1,hE1]at HC
    have hlen:T1.length≤T0.length+1∧S1.length=T1.length∧E1.length=T1.length:=by
     have:=HL.out.l;dsimp only at this;rw[←hT1,←hS1,←hE1]
     cases d<;>simp<;>omega
    have HLEN:=Lib.hid hlen;have HLP:=Lib.hid (one_lp HL.out start (body:=body) (by omega) hgcnt.out)
    have HST:=Lib.hid (show start=true→GH=nob∧(d=true→H.extract 0 m=H)from fun hs=>by
     subst hs;obtain⟨_,_,g3,g4⟩:=good_start HGD.out rfl;rw[HH.out]at g3 g4
     cases d with
     |true=>
      have:=g3 HDD.out;rw[HMM.out]at this;refine⟨HHE.out.symm,fun _=>?_⟩;rw[this];exact ext_all H
     |false=>exact⟨HHE.out.symm.trans (g4 HDD.out),fun h=>by cases h⟩)
    have HTSE:=Lib.hid (And.intro hT1 (And.intro hS1 hE1));clear hT1 hS1 hE1 hlen
    go_upto_region 38 with fail
    have y0:=Blk.cell (HC.out.b) 0 (v:= .int .i64 pid) rfl;have y1:=Blk.cell (HC.out.b) 1 (v:= .bool start) rfl;have y2:=Blk.cell (HC.out.b) 2 (v:= .int .i64 co) rfl;have y3:=Blk.cell (HC.out.b) 3 (v:= .bool false) rfl;have y4:=Blk.cell (HC.out.b) 4 (v:= .string body) rfl
    go_cut [162]from 157 to 163 (fun s162 wx=>s162= .bool false∧wc=wx)
    case first=>
     cases start with
     |false=>
      go_wp2_with fail
      go_meet
      case rel=>exact⟨rfl,rfl⟩
     |true=>
      obtain rfl:GH=nob:=(HST.out rfl).1
      go_wp2_with fail
      go_meet
      case rel=>exact⟨rfl,rfl⟩
    case rest=>
    obtain⟨rfl,rfl⟩:=hcut
    cases start with
    |false=>
     have hRB0:RB=nob:=by rw[←HRB.out,if_neg (by decide)]
     subst hRB0
     have HU:=Lib.hid (show rdOne ⟨T0,S0,E0,hv,fr,n⟩ i false body=⟨T1,S1,E1,GH,fr,n+1⟩from by
      unfold rdOne;rw[if_neg (by decide)];obtain⟨e1,e2,e3⟩:=HTSE.out;rw[HH.out,HDD.out,HMM.out,e1,e2,e3,HHE.out])
     have HU2:=Lib.hid (HUP.out.trans HU.out);rw[HU.out]at HLP;clear HU
     go_wp2_with fail
     go_loopw [6,7,13] (fun a b c wr=>a= .string GH∧b= .int .i64 fr∧c= .string nob∧wc=wr) (fun _ _ _ _=>0)
     case atStart=>exact⟨rfl,rfl,rfl,rfl⟩
     case round=>
      obtain⟨rfl,rfl,rfl,rfl⟩:=hrel
      go_wp2_with fail
      go_roundw
      case rel=>exact⟨i+1,co,u0,u1,u2,by omega,by rw[HU2.out],by rw[HU2.out],rfl,by go_num,by rw[HU2.out];exact HLP,by rw[HU2.out];exact HC.out.m⟩
      case measure=>simp[intOf];omega
    |true=>
     obtain rfl:GH=nob:=(HST.out rfl).1
     have HU:=Lib.hid (show ∀(T2:List ByteArray) (S2 E2:List Int) (h2:ByteArray) (f2:Int),(T2=T1++(rs body).1.map str∧S2=S1++(rs body).1.map (fun _=>(i:Int))∧E2=E1++(rs body).1.map (fun _=>(i:Int))∧h2=str (rs body).2∧f2=(if(rs body).1=[]∧(rs body).2=[]then fr else(i:Int)))→
      rdUp pid P (i+1)=⟨T2,S2,E2,h2,f2,n+1⟩from fun T2 S2 E2 h2 f2 h=>by
      rw[HUP.out];obtain⟨e1,e2,e3⟩:=HTSE.out;refine one_start (st:=⟨T0,S0,E0,hv,fr,n⟩) (d:=d) (by rw[HH.out];exact HDD.out) ⟨?_,by rw[e2];exact h.2.1,by rw[e3];exact h.2.2.1,h.2.2.2.1,h.2.2.2.2⟩;rw[h.1,←e1,HH.out]
      cases d with
      |true=>rw[if_pos rfl,if_pos rfl,(HST.out rfl).2 rfl]
      |false=>rfl)
     rw[←HUP.out]at HLP
     have HRS:Hid (RestI T1 S1 E1 (i:Int) fr (rs body) body.size ((bl RB).length+1) T1 S1 E1 nob RB fr):=by
      have h1:body.extract (b0 body+1) body.size=RB:=by rw[HB0.out,←HRB.out,if_pos rfl]
      have h2:=rest_start (b:=body) (T0:=T1) (S0:=S1) (E0:=E1) (i:=(i:Int)) (f0:=fr) HLEN.out.2.1 HLEN.out.2.2;rw[h1]at h2;exact Lib.hid h2
     clear HGD HH HB HMB HRB HB0 HD HDD HMM HHE HST HUP HTSE
     go_wp2_with fail
     go_loopw [6,7,13] (fun a b c wr=> ∃(u0 u1 u2:Value) (T2:List ByteArray) (S2 E2:List Int) (h2 r2:ByteArray) (f2:Int) (fu:Nat),a= .string h2∧b= .int .i64 f2∧c= .string r2∧Hid (RestI T1 S1 E1 (i:Int) fr (rs body) body.size fu T2 S2 E2 h2 r2 f2)∧Hid (RdX w wr u0 u1 u2 T2 S2 E2 (n+1) W1.heap.size #[.int .i64 pid,.bool true,.int .i64 co,.bool false,.string body])) (fun _ _ c _=>strLen c)
     case atStart=>exact⟨_,_,_,_,_,_,_,_,_,_,rfl,rfl,rfl,HRS,HC⟩
     case round=>
      clear HRS HC;obtain⟨x0,x1,x2,T2,S2,E2,h2,r2,f2,fu,rfl,rfl,rfl,HI,HY⟩:=hrel;by_cases hz:r2=nob
      ·subst hz
       have HEN:=Lib.hid (show T2=T1++(rs body).1.map str∧S2=S1++(rs body).1.map (fun _=>(i:Int))∧E2=E1++(rs body).1.map (fun _=>(i:Int))∧h2=str (rs body).2∧f2=(if(rs body).1=[]∧(rs body).2=[]then fr else(i:Int))from by
        by_cases hh:h2=nob
        ·exact HI.out.endA hh (rest_nil _)
        ·exact(HI.out.endB hh).2)
       have HU2:=Lib.hid (HU.out _ _ _ _ _ HEN.out);clear HEN HI HU;rw[HU2.out]at HLP
       go_wp2_with fail
       go_roundw
       case rel=>exact⟨i+1,co,x0,x1,x2,by omega,by rw[HU2.out],by rw[HU2.out],rfl,by go_num,by rw[HU2.out];exact HLP,by rw[HU2.out];exact HY.out.m⟩
       case measure=>simp[intOf];omega
      ·have hh:h2=nob:=Classical.byContradiction fun hh=>hz (HI.out.endB hh).1
       subst hh
       obtain⟨ch,tl,hLr⟩: ∃ch tl,bl r2=ch::tl:=by
        cases h:bl r2 with
        |nil=>exact absurd (bl_nob.2 h) hz
        |cons ch tl=>exact⟨ch,tl,rfl⟩
       have hr2:r2.size=tl.length+1:=by rw[←bl_len,hLr];rfl
       have hc0:BiH.at0 r2 0=ch.toNat:=by rw[←str_bl r2,at0_str,hLr];rfl
       have ir: ∀V:World,(Instr.index 9 (.string r2) (.int .i64 0)).run Tryz.prog V= .ok (.int .u8 (ch.toNat:Int)) V:=fun V=>by
        have:=idx_at r2 0 (by omega) V;rw[BiH.at0_at,hc0]at this;exact this
       have tr:(r2.toList==[])=false:=by
        refine beq_eq_false_iff_ne.2 (fun e=>hz ?_);exact bl_nob.2 (by unfold bl;rw[←ByteArray.toList_eq,e])
       have hr9:r2.size≤184:=by
        have:=HI.out.len;omega
       have HLR:=Lib.hid hLr;clear hLr hc0 hz;by_cases hc:ch=255
       ·have tc:(ch.toNat:Int)=255:=by rw[hc];rfl
        rw[tc]at ir;have HEN:=Lib.hid (HI.out.endA rfl (by rw[HLR.out,hc];exact rest_ff _ _));have HU2:=Lib.hid (HU.out _ _ _ _ _ HEN.out);clear HEN HI HU HLR tc hc;rw[HU2.out]at HLP;clear hr2
        go_wp2_with fail
        go_roundw
        case rel=>exact⟨i+1,co,x0,x1,x2,by omega,by rw[HU2.out],by rw[HU2.out],rfl,by go_num,by rw[HU2.out];exact HLP,by rw[HU2.out];exact HY.out.m⟩
        case measure=>simp[intOf];omega
       ·have tc:((ch.toNat:Int)==255)=false:=beq_eq_false_iff_ne.2 (fun e=>hc (UInt8.toNat_inj.1 (show ch.toNat=255 by omega)))
        obtain⟨ck,hck⟩: ∃k,ch.toNat=k:=⟨_,rfl⟩;rw[hck]at ir tc;have HCH:=Lib.hid hc;have hr0:0<r2.size:=by omega
        have kw: ∀V,Calls Tryz.prog 43 #[.string r2] V fun e w'=>e= .returned (.int .i64 (wh (bl r2):Int))∧Below V.heap.size V w':=fun V=>whole_any r2 V (by omega);obtain⟨m2,hm2⟩: ∃m,wh (bl r2)=m:=⟨_,rfl⟩;have hm9:m2≤4098:=by rw[←hm2];exact wh_le _
        rw[hm2]at kw;have HM2:=Lib.hid hm2;clear hc hck hm2 hr2
        go_upto_region 45 with fail
        (with_reducible refine(kw _).mono ?_);rintro e1 W5 ⟨rfl,hb5⟩
        have HZ:=Lib.hid (HY.out.grown hb5);clear kw hb5 HY ir tr tc
        go_upto_region 45 with fail
        by_cases hm0:m2=0
        ·have HI2:=Lib.hid (HI.out.hold rfl HLR.out HCH.out (Or.inl (by rw[HM2.out];exact hm0)))
         subst hm0;clear HI
         go_wp2_with fail
         go_roundw
         case rel=>exact⟨_,_,_,_,_,_,_,_,_,_,rfl,rfl,rfl,HI2,HZ⟩
         case measure=>exact hr0
        ·have q0:((m2:Int)==0)=false:=beq_eq_false_iff_ne.2 (by omega)
         have q0':(m2==0)=false:=beq_eq_false_iff_ne.2 hm0;by_cases hm1:r2.size<m2
         ·have q1:decide (r2.size<m2)=true:=decide_eq_true hm1
          have HI2:=Lib.hid (HI.out.hold rfl HLR.out HCH.out (Or.inr (by rw[HM2.out];exact hm1)));clear HI hm1 hm0
          go_wp2_with fail
          go_roundw
          case rel=>exact⟨_,_,_,_,_,_,_,_,_,_,rfl,rfl,rfl,HI2,HZ⟩
          case measure=>exact hr0
         ·have q1:decide (r2.size<m2)=false:=decide_eq_false hm1
          obtain⟨fu2,hI2⟩:=HI.out.whole rfl HLR.out HCH.out HM2.out (by omega) (by omega);have hlen2:=HI.out.len;have hTl0:T2.length≤400001000:=by have:=HLEN.out;omega
          have hTl1:S2.length≤400001000:=by omega
          have hTl2:E2.length≤400001000:=by omega
          have hsl: ∀V:World,(Instr.slice 9 (.string r2) none (some (.int .i64 (m2:Int))) none).run Tryz.prog V= .ok (.string (r2.extract 0 m2)) V:=fun V=>by
           rw[run_slice_string_h V 9 r2 Tryz.underlying9 .i64 (m2:Int) (by omega) (by omega)];rfl
          have hsl2: ∀V:World,(Instr.slice 9 (.string r2) (some (.int .i64 (m2:Int))) none none).run Tryz.prog V= .ok (.string (r2.extract m2 r2.size)) V:=fun V=>by
           rw[run_slice_string_l V 9 r2 Tryz.underlying9 .i64 (m2:Int) (by omega) (by omega)];rfl
          have hms:strLen (.string (r2.extract m2 r2.size))<strLen (.string r2):=by
           show(r2.extract m2 r2.size).size<r2.size;rw[ByteArray.size_extract];omega
          have HI2:=Lib.hid hI2;have HMS:=Lib.hid hms;obtain⟨X9,hX9⟩: ∃x,r2.extract 0 m2=x:=⟨_,rfl⟩;obtain⟨X8,hX8⟩: ∃x,r2.extract m2 r2.size=x:=⟨_,rfl⟩;rw[hX9]at hsl HI2;rw[hX8]at hsl2 HI2 HMS;clear HI hm1 hm0 hI2 hms hX9 hX8 hlen2
          go_wp2_with fail
          have c0:=fun pX=>Blk.cell (blk_ext (HZ.out.m.out) pX) 0 (v:=x0) rfl;have c1:=fun pX=>Blk.cell (blk_ext (HZ.out.m.out) pX) 1 (v:=x1) rfl;have c2:=fun pX=>Blk.cell (blk_ext (HZ.out.m.out) pX) 2 (v:=x2) rfl;refine Go.Proofs.YtibjkhepedfpiaaGreatDoor.Rg.region_new [(5,newS 1 9 #[.string (X9)] 0)] 6 (by kernel_rfl) (by kernel_rfl) (by kernel_rfl) (lk_cons newS_inh lk_nil) (lk_cons newS_mono lk_nil) ?_;intro σ hσ;simp only[List.take_succ_cons,List.take_zero,List.drop_succ_cons,List.drop_zero];refine Go.Proofs.YtibjkhepedfpiaaGreatDoor.Rg.wpN_take 5 (by kernel_rfl) (by kernel_rfl) (by kernel_rfl) ?_;simp only[List.take_succ_cons,List.take_zero,List.drop_succ_cons,List.drop_zero]
          repeat (go_big_quiet_step (fail))
          refine wpQuiet_nil ?_;refine Go.Proofs.YtibjkhepedfpiaaGreatDoor.Rg.wpN_sp _ rfl (by kernel_rfl) (spAt_newS 1 9 #[.string (X9)] (Nat.zero_le _) (by intro w0;go_simp)) ?_;simp only[Act.put,List.setIfInBounds_toArray,List.set_cons_zero,List.set_cons_succ];refine Go.Proofs.YtibjkhepedfpiaaGreatDoor.Rg.wpN_nil ?_;rintro w9 ⟨pq,rfl⟩ hp9;obtain⟨g9,hg9,_,hb9⟩:=hp9 5 _ rfl;rw[hg9];have HA:=Lib.hid (HZ.out.grown (below_ext W5 pq));have hza:=HA.out.m.be.size;clear hp9 hσ hg9 c0 c1 c2
          go_wp2_with (at_builtin;refine ApG.wpList_appG rfl _ _ rfl elemS rfl HA.out.m.o0 rfl rfl (blk_news hb9) (by simp[Value.oneCell']) (by omega) (by unfold maxLen;omega) hza ?_)
          intro y0 w8 hown8 hgr8 hloc8;obtain⟨ya,yc,rfl⟩:=own_form hown8;obtain⟨HC,hk8⟩:=HA.out.push0 hgr8 hown8 hloc8;have f0:=Blk.frozen (hk8) 0;have k0':=Blk.cell hk8 0 (v:=x0) rfl;have HCh:=Lib.hid HC;have k1:=Blk.cell (HC.m.out) 1 (v:=x1) rfl;have k2:=Blk.cell (HC.m.out) 2 (v:=x2) rfl;have HD:=Lib.hid (HC.grown ((Below.refl _ _).alloc (Nat.le_refl _) (.cells #[.int .i64 ((i:Int))] 3)));have hzd:=HD.out.m.be.size;clear hown8 hgr8 hloc8 hk8 hb9 HA hza HC
          go_wp2_with (at_builtin;(refine ApG.wpList_appG rfl _ _ rfl elemI rfl HD.out.m.o1 rfl rfl (blk_news (Blk.newAt _ 3 #[.int .i64 ((i:Int))] (by simp))) (by simp[Value.oneCell']) (by omega) (by unfold maxLen;omega) hzd ?_))
          intro y1 w7 hown7 hgr7 hloc7;obtain⟨za,zc,rfl⟩:=own_form hown7;obtain⟨HC7,hk7⟩:=HD.out.push1 hgr7 hown7 (by simpa using hloc7);have g0:=Blk.frozen (hk7) 0;have g1:=Blk.frozen (hk7) 1;have j0':=Blk.cell hk7 1 (v:=x1) rfl;have l2:=Blk.cell (HC7.m.out) 2 (v:=x2) rfl;have HE:=Lib.hid (HC7.grown ((Below.refl _ _).alloc (Nat.le_refl _) (.cells #[.int .i64 ((i:Int))] 3)));have hze:=HE.out.m.be.size;clear hown7 hgr7 hloc7 hk7 HD hzd HC7 HCh f0 k0' k1 k2
          go_wp2_with (at_builtin;refine ApG.wpList_appG rfl _ _ rfl elemI rfl HE.out.m.o2 rfl rfl (blk_news (Blk.newAt _ 3 #[.int .i64 ((i:Int))] (by simp))) (by simp[Value.oneCell']) (by omega) (by unfold maxLen;omega) hze ?_)
          intro y2 w6 hown6 hgr6 hloc6;obtain⟨xa,xc,rfl⟩:=own_form hown6;obtain⟨HC6,hk6⟩:=HE.out.push2 hgr6 hown6 (by simpa using hloc6);have o0:=Blk.frozen (hk6) 0;have o1:=Blk.frozen (hk6) 1;have o2:=Blk.frozen (hk6) 2;have i0':=Blk.cell hk6 2 (v:=x2) rfl;have HF:=Lib.hid HC6;clear hown6 hgr6 hloc6 hk6 HE hze HC6 g0 g1 j0' l2
          go_wp2_with fail
          go_roundw
          case rel=>exact⟨_,_,_,_,_,_,_,_,_,_,rfl,rfl,rfl,HI2,HF⟩
          case measure=>exact HMS.out
   ·have t2:(pid !=x)=true:=bne_iff_ne.2 hx
    rw[if_neg hx]at HUP;have b0:=Blk.cell (HXX.out.b) 0 (v:= .int .i64 pid) rfl;have b1:=Blk.cell (HXX.out.b) 1 (v:= .bool start) rfl;have b2:=Blk.cell (HXX.out.b) 2 (v:= .int .i64 co) rfl;have b3:=Blk.cell (HXX.out.b) 3 (v:= .bool false) rfl;have b4:=Blk.cell (HXX.out.b) 4 (v:= .string body) rfl;clear hg hx
    go_wp2_with fail
    go_roundw
    case rel=>exact⟨i+1,cv,v0,v1,v2,by omega,by rw[HUP.out],by rw[HUP.out],rfl,by go_num,by rw[HUP.out];exact Lib.hid ⟨HL.out.c,⟨by have:=HL.out.l.1;omega,HL.out.l.2⟩,by have:=HL.out.n;omega,HL.out.h⟩,by rw[HUP.out];exact HXX.out.m⟩
    case measure=>simp[intOf];omega
  ·obtain rfl:i=N:=by omega
   have t0:decide (188*(i:Int)+188≤(s.size:Int))=false:=decide_eq_false (by have:=HS.out;omega);obtain⟨st,hst⟩: ∃st,rdUp x P i=st:=⟨_,rfl⟩;rw[hst]at HL HM HE HR ⊢;obtain⟨T0,S0,E0,hv,fr,n⟩:=st;obtain rfl:hv=nob:=HE.out;dsimp only at HM ⊢;obtain⟨a0,k0,rfl⟩:=own_form HM.o0;obtain⟨a1,k1,rfl⟩:=own_form HM.o1;obtain⟨a2,k2,rfl⟩:=own_form HM.o2;have HMM:=Lib.hid HM;have H0:=Lib.hid (own_ne HM.o0 HM.res (by decide));have H1:=Lib.hid (own_ne HM.o1 HM.res (by decide));have H2:=Lib.hid (own_ne HM.o2 HM.res (by decide));have c0:=Blk.cell (HM.out) 0 (v:= .slice a0 T0.length k0) rfl;have c1:=Blk.cell (HM.out) 1 (v:= .slice a1 S0.length k1) rfl;have c2:=Blk.cell (HM.out) 2 (v:= .slice a2 E0.length k2) rfl;have c3:=Blk.cell (HM.out) 3 (v:= .int .i64 (n:Int)) rfl;have c4:=Blk.cell (HM.out) 4 (v:= .bool true) rfl;clear hst HM HX HG
   go_wp2_with (refine wpList_store_blk (g:=w.heap.size) (T:=43) (cs':= #[.slice a0 T0.length k0,.slice a1 S0.length k1,.slice a2 E0.length k2,.int .i64 (n:Int),.bool true]) rfl 43 _ _ rfl rfl rfl (HMM.out.res) (by kernel_rfl) (by kernel_rfl) (by kernel_rfl) (by kernel_rfl) ?_;intro W9 hW9 hg9 hz9)
   have hVE:=HMM.out.be.trans (below_of_only hg9 HMM.out.be.size (fun k hk=>by injection hk with hk;omega));refine bodyPost_ret (v:= .agg #[.slice a0 T0.length k0,.slice a1 S0.length k1,.slice a2 E0.length k2,.int .i64 (n:Int),.bool true]) (results_cell_row rfl _ _ w.heap.size 43 _ (0,0) _ rfl hW9 Tryz.underlying43 rfl (by kernel_rfl)) rfl ?_;rw[HR.out];exact⟨⟨_,_,_,rfl,own_only HMM.out.o0 hg9 H0.out,own_only HMM.out.o1 hg9 H1.out,own_only HMM.out.o2 hg9 H2.out⟩,hVE⟩
end Go.Proofs.YtibjkhepedfpiaaGreatDoor.RdV
