import Derived.Test.YtibjkhepedfpiaaDoorSlPkY
import Derived.Test.YtibjkhepedfpiaaDoorSlBlG
import Derived.Test.YtibjkhepedfpiaaDoorSlSlW
import Derived.Test.YtibjkhepedfpiaaDoorSlRdQ
import Derived.Maps.OwnOps
import Derived.Maps.Views
namespace Go.Proofs.YtibjkhepedfpiaaDoor.PkL
open Go Go.RowKit Go.Maps Q Mem Rg Ap St BlS BlG CrB PaA PaP PaN PaK SlM SlP SlR SlS SlW PkP PkE PkY
structure Lst where
 out:List Pkt
 nx:Int→Nat
noncomputable def nS (S:List ByteArray):Nat:=nP (S.map ByteArray.size)
noncomputable def layStep (s:Lst) (b:Br):Lst:=
 ⟨s.out++List.replicate (b.at_.toNat-s.out.length) nilPk++pks b.pid (s.nx b.pid) b.S (nS b.S),fun x=>if x=b.pid then(s.nx b.pid+nS b.S)%16 else s.nx x⟩
noncomputable def layF (L:List Br):Lst:=L.foldl layStep ⟨[],fun _=>0⟩
theorem layF_snoc {L:List Br} {q:Nat} {b:Br} (h:L[q]? =some b):layF (L.take (q+1))=layStep (layF (L.take q)) b:=by
 unfold layF;rw[List.take_add_one,h,List.foldl_append];rfl
theorem body_len (r:ByteArray) (l:List ByteArray):(bodyL r l).length=184∨(bodyL r l).length=183:=by
 cases hb:startB r l
 ·rw[body_no hb]
  simp only[List.length_append,List.length_take,bl_len,List.length_replicate]
  split<;>omega
 ·rw[body_yes hb]
  simp only[List.length_append,List.length_cons,List.length_replicate];rw[RdQ.tk_q,List.length_take];omega
theorem pks_len (pid:Int) (c:Nat) (S:List ByteArray) (K:Nat):(pks pid c S K).length=K:=by simp[pks]
theorem pks_ok {pid:Int} {c:Nat} {S:List ByteArray} (h0:0≤pid) (h1:pid<8191) (_hS:firstE S=0): ∀p∈pks pid c S (nS S),PkOk p:=by
 intro p hp;obtain⟨k,_,rfl⟩:=List.mem_map.1 hp;refine⟨⟨h0,by show pid<8192;omega⟩,⟨?_,?_⟩,?_⟩
 ·show(0:Int)≤(((c+k)%16:Nat):Int);omega
 ·show(((c+k)%16:Nat):Int)<16;omega
 ·show(str _).size=184∨(str _).size=183
  rw[str_size];exact body_len _ _
structure LayOk (s:Lst) (rest:List Br):Prop where
 c:checkE (s.out.length:Int) rest=0
 ok: ∀p∈s.out,PkOk p
 nx: ∀x,s.nx x<16
 len:s.out.length≤1080000
theorem checkE_cons {e:Int} {b:Br} {t:List Br} (h:checkE e (b::t)=0):rightP b.pid b.at_∧manyE b.S=0∧e≤b.at_∧checkE (b.at_+nS b.S) t=0:=by
 rw[checkE]at h;by_cases h1:rightP b.pid b.at_
 ·rw[if_neg (by simpa using h1)]at h
  by_cases h2:manyE b.S=0
  ·rw[if_neg (by simpa using h2)]at h
   by_cases h3:b.at_<e
   ·rw[if_pos h3]at h;cases h
   ·rw[if_neg h3]at h
    refine⟨h1,h2,by omega,?_⟩;rw[show(nS b.S:Int)=(manyN b.S:Int) by unfold manyN nS;rw[if_pos h2]];exact h
  ·rw[if_pos h2]at h;exact absurd h h2
 ·rw[if_pos h1]at h;cases h
theorem many_first {S:List ByteArray} (h:manyE S=0):S.length≠0∧firstE S=0:=by
 unfold manyE at h
 split at h
 ·cases h
 ·rename_i h0;exact⟨h0,h⟩
theorem nS_le {S:List ByteArray} (h:manyE S=0) (hs:S.length≤1000∧ ∀s∈S,s.size≤5000):nS S≤30000:=by
 have:=manyN_le hs.2;have e:manyN S=nS S:=by unfold manyN nS;rw[if_pos h]
 omega
theorem LayOk.step {s:Lst} {b:Br} {t:List Br} (h:LayOk s (b::t)) (hs:Small b):LayOk (layStep s b) t:=by
 obtain⟨h1,h2,h3,h4⟩:=checkE_cons h.c;have hN:=nS_le h2 hs
 have hl:(layStep s b).out.length=b.at_.toNat+nS b.S:=by
  unfold layStep;simp only[List.length_append,List.length_replicate,pks_len];omega
 have ha:=h1.2.2;refine⟨?_,?_,?_,?_⟩
 ·rw[hl]
  have:((b.at_.toNat+nS b.S:Nat):Int)=b.at_+nS b.S:=by omega
  rw[this];exact h4
 ·intro p hp
  unfold layStep at hp;simp only[List.mem_append]at hp;rcases hp with(hp|hp)|hp
  ·exact h.ok p hp
  ·rw[List.eq_of_mem_replicate hp];exact nil_ok
  ·exact pks_ok h1.1 (by have:=h1.2.1;omega) (many_first h2).2 p hp
 ·intro x
  unfold layStep;dsimp only
  split
  ·omega
  ·exact h.nx x
 ·rw[hl];omega
structure Lw (w wr:World) (g q:Nat) (v:Value) (out:List Pkt) (nx:Int→Nat):Prop where
 b:BuV wr g (g+2) v (Lib.byteCells (airL out))
 m: ∃D:DataW Unit,wr.ownsMap Tryd.prog 3 (plainElem Tryd.prog 3) (g+1) q D∧ ∀x,D.atKey (.int .i64 x) (.lit (.int .i64 0))= .lit (.int .i64 (nx x:Int))
 be:Below w.heap.size w wr
 gw:w.heap.size≤g
theorem Lw.below {w wr wr':World} {g q:Nat} {v:Value} {out:List Pkt} {nx:Int→Nat} (h:Lw w wr g q v out nx) (hb:Below wr.heap.size wr wr'):Lw w wr' g q v out nx:=by
 obtain⟨h1,⟨D,h2,h3⟩,h4,h5⟩:=h;exact⟨h1.below hb,⟨D,h2.kept (only_of_below hb none) (by simp),h3⟩,h4.trans (hb.mono h4.size),h5⟩
theorem Lw.write {w wr wr':World} {g q:Nat} {v v':Value} {out out':List Pkt} {nx:Int→Nat} (h:Lw w wr g q v out nx) (hG:Gw g v wr wr') (hB:BuV wr' g (g+2) v' (Lib.byteCells (airL out'))):Lw w wr' g q v' out' nx:=by
 obtain⟨h1,⟨D,h2,h3⟩,h4,h5⟩:=h;refine⟨hB,⟨D,?_,h3⟩,?_,h5⟩
 ·obtain⟨es,clock,hb,F,hs,hD⟩:=h2
  exact⟨es,clock,(hG.block (g+1) (Array.getElem?_eq_some_iff.1 hb).1 (by omega) (fun e=>by have:=(h1.own.lt _ e.symm).1;omega)).trans hb,F,hs,hD⟩
 ·exact h4.trans (hG.below h5 h4.size (fun r e=>by have:=(h1.own.lt _ e).1;omega))
theorem keyM:Keyed Tryd.prog 3:=int_keyed Tryd.underlying3
theorem zeroM (w:World):(zeroValue 3).run Tryd.prog w= .ok (.int .i64 0) w:=by kernel_rfl
noncomputable def layB (L:List Br):ByteArray:=if checkE 0 L=0 then str (airL (layF L).out)else nob
set_option maxRecDepth 100000
set_option maxHeartbeats 3200000 in
theorem lay_any (a:Option Addr) (n c:Nat) (L:List Bu) (w:World) (hW:Wid 0 w) (hn:L.length=n) (hl:n≤100000) (hL:Seq enBu 3 w a L) (hok: ∀x∈L,BuOk w x) (hsm: ∀x∈L,Small x.b):
 Calls Tryd.prog 10 #[.slice a n c] w fun e w'=>e= .returned (.tuple #[.string (layB (L.map Bu.b)),.int .i64 (checkE 0 (L.map Bu.b))])∧Below w.heap.size w w':=by
 have kc:=check_any a n c L w hn hl hL hok hsm;by_cases hE:checkE 0 (L.map Bu.b)=0
 ·rw[hE]at kc ⊢
  have HB:=Lib.hid (show layB (L.map Bu.b)=str (airL (layF (L.map Bu.b)).out)from if_pos hE);have HOK0:=Lib.hid (show LayOk (layF ((L.map Bu.b).take 0)) ((L.map Bu.b).drop 0)from⟨hE,by simp[layF],fun x=>by simp[layF],by simp[layF]⟩);have HL:=Lib.hid hL;have HN:=Lib.hid hn;have HO:=Lib.hid hok;have HSm:=Lib.hid hsm;have HW:=Lib.hid hW;have hmm:= @run_makeMap Tryd.prog;clear hL hn hok hsm hW hE
  go_enter Tryd.func10,Tryd.ntmps10
  go_wp2_with fail
  (with_reducible refine(kc).mono ?_);rintro e1 W1 ⟨rfl,hb1⟩
  clear kc
  go_wp2_with fail
  have hg1:=hb1.size
  have HI:=Lib.hid (show Lw w ((W1.alloc (.cells #[.pointer none,.slice none 0 0] 61)).alloc (.map #[] 0)) W1.heap.size 0 (.slice none 0 0) (layF ((L.map Bu.b).take 0)).out (layF ((L.map Bu.b).take 0)).nx from
   ⟨(BuV.fresh.below ((Below.refl _ _).alloc (Nat.le_refl _) (.map #[] 0))).up (by omega) (by simp),⟨.map [],by have:=World.ownsMap_made (H:=Unit) (W1.alloc (.cells #[.pointer none,.slice none 0 0] 61)) Tryd.prog 3 (plainElem Tryd.prog 3);simpa using this,fun x=>rfl⟩,(hb1.alloc hg1 _).alloc (by simp;omega) _,hg1⟩)
  go_loopw [21] (fun i wr=> ∃(q:Nat) (v:Value),q≤n∧i= .int .i64 q∧Hid (LayOk (layF ((L.map Bu.b).take q)) ((L.map Bu.b).drop q))∧Lw w wr W1.heap.size q v (layF ((L.map Bu.b).take q)).out (layF ((L.map Bu.b).take q)).nx) (fun i _=>n-(intOf i).toNat)
  case atStart=>exact⟨0,_,by omega,rfl,HOK0,HI.out⟩
  case round=>
   obtain⟨q,v,hq,rfl,HOK,HM⟩:=hrel;clear HI HOK0;obtain⟨g,hg⟩: ∃g,W1.heap.size=g:=⟨_,rfl⟩;rw[hg]at HM hg1 ⊢;by_cases hqn:q<n
   ·have t1:decide (q<n)=true:=decide_eq_true hqn
    obtain⟨x,hx⟩: ∃x,L[q]? =some x:=⟨_,List.getElem?_eq_getElem (by rw[HN.out];exact hqn)⟩;obtain⟨b0,o0,rfl,hlt,hc⟩:=(HL.out.below (Nat.le_refl _) HM.be) q x hx;have k0:(0:Int)≤(q:Int):=Int.natCast_nonneg _;have k1:(q:Int)<(n:Int):=by omega
    have c0:=hc 0 _ rfl;have c1:=hc 1 _ rfl;have c2:=hc 2 _ rfl;rw[off_eq]at c0 c1 c2;rw[Nat.add_zero]at c0;obtain⟨hsq,hcap⟩:=HO.out x (List.mem_of_getElem? hx);have hsm:=HSm.out x (List.mem_of_getElem? hx)
    have hdr:(L.map Bu.b).drop q=x.b::(L.map Bu.b).drop (q+1):=by
     rw[List.drop_eq_getElem_cons (by rw[List.length_map,HN.out];exact hqn)]
     congr 1
     rw[List.getElem_map];have:=List.getElem?_eq_some_iff.1 hx;rw[this.2]
    have hST:=layF_snoc (L:=L.map Bu.b) (q:=q) (b:=x.b) (by rw[List.getElem?_map,hx];rfl);have hok:=HOK.out;rw[hdr]at hok;have HOK2:=Lib.hid (show LayOk (layF ((L.map Bu.b).take (q+1))) ((L.map Bu.b).drop (q+1))from by rw[hST];exact hok.step hsm);obtain⟨⟨hr1,hr2,hr3,hr4⟩,hmE,hea,_⟩:=checkE_cons hok.c;obtain⟨h0,hf⟩:=many_first hmE;have hoks:=hok.ok;have hnx:=hok.nx x.b.pid;obtain⟨⟨pid,at_,S⟩,sa,sc⟩:=x;dsimp only at c0 c1 c2 hsq hcap hsm hST hr1 hr2 hr3 hr4 hmE hea h0 hf hnx;have hns5:=hsm.2;have hns8:=hsm.1;dsimp only at hns5 hns8;obtain⟨NX,hNX⟩: ∃nx,(layF ((L.map Bu.b).take q)).nx=nx:=⟨_,rfl⟩;obtain⟨OUT,hOUT⟩: ∃o,(layF ((L.map Bu.b).take q)).out=o:=⟨_,rfl⟩
    have HSO:=Lib.hid (show(layF ((L.map Bu.b).take (q+1))).out=OUT++List.replicate (at_.toNat-OUT.length) nilPk++pks pid (NX pid) S (nS S)∧(layF ((L.map Bu.b).take (q+1))).nx=fun x=>if x=pid then(NX pid+nS S)%16 else NX x from by
     rw[hST];unfold layStep;dsimp only;rw[hNX,hOUT];exact⟨rfl,rfl⟩)
    rw[hNX]at HM hnx;rw[hOUT]at HM hea hoks;have hks:=manyN_le (S:=S) hns5;have HP:=Lib.hid (pks_ok (c:=NX pid) hr1 (by omega:pid<8191) hf);have hN3:=nS_le hmE ⟨hns8,hns5⟩;have hbk:=Blk.new wr 35 #[.int .i64 pid,.int .i64 at_,.slice sa S.length sc];obtain⟨ns,hns⟩: ∃ns,S.length=ns:=⟨_,rfl⟩;rw[hns]at hbk c2 hcap hns8;have HM1:=HM.below ((Below.refl wr.heap.size wr).alloc (Nat.le_refl _) (.cells #[.int .i64 pid,.int .i64 at_,.slice sa ns sc] 35));have hge:g+2≤wr.heap.size:=HM.b.bw;clear hc hx hdr hok HOK hST hNX hOUT HM
    go_wp2_with fail
    obtain⟨bk,hbke⟩: ∃b,wr.heap.size=b:=⟨_,rfl⟩;rw[hbke]at hbk hge ⊢
    go_loopw [] (fun wi=> ∃(k:Nat) (v1:Value),OUT.length+k≤at_.toNat∧Blk wi bk 35 #[.int .i64 pid,.int .i64 at_,.slice sa ns sc]∧Lw w wi g q v1 (OUT++List.replicate k nilPk) NX) (fun wi=>188*1048577-bLen wi g)
    case atStart=>exact⟨0,v,by omega,hbk,by simpa using HM1⟩
    case round=>
     clear HM1 hbk;obtain⟨k,v1,hk,hbx,HMi⟩:=hrel
     have hoks2: ∀p∈OUT++List.replicate k nilPk,PkOk p:=fun p hp=>by
      rcases List.mem_append.1 hp with hp|hp
      ·exact hoks p hp
      ·rw[List.eq_of_mem_replicate hp];exact nil_ok
     have hlM:(Lib.byteCells (airL (OUT++List.replicate k nilPk))).length=188*(OUT.length+k):=by
      rw[Lib.byteCells,List.length_map,airL_len hoks2,List.length_append,List.length_replicate]
     have hbl:=HMi.b.bLen;rw[hlM]at hbl
     have kl: ∀p,Calls Tryd.prog 20 #[.pointer (some ⟨g,0,none⟩)] (ext wr p) fun e w'=>e= .returned (.int .i64 ((188*(OUT.length+k):Nat):Int))∧Below (ext wr p).heap.size (ext wr p) w':=fun p=>
      (len_bv g (g+2) v1 _ (ext wr p) (HMi.b.below (below_ext wr p))).mono (fun e w' h=>⟨by rw[h.1,hlM],h.2▸Below.refl _ _⟩)
     have c1:=fun pX=>Blk.cell (blk_ext hbx pX) 1 (v:= .int .i64 at_) rfl;by_cases hlt9:188*(OUT.length+k)<at_.toNat*188
     ·have t3:decide (((188*(OUT.length+k):Nat):Int)<at_*188)=true:=decide_eq_true (by omega)
      have HSN:=Lib.hid (show airL (OUT++List.replicate (k+1) nilPk)=airL (OUT++List.replicate k nilPk)++pkBy nilPk from by
       rw[List.replicate_succ',←List.append_assoc,airL_app];simp[airL])
      have hkk:OUT.length+(k+1)≤at_.toNat:=by omega
      obtain⟨M,hMe⟩: ∃M,188*(OUT.length+k)=M:=⟨_,rfl⟩;rw[hMe]at kl t3 hlM hbl;have hM9:M≤197132288:=by omega
      clear hlt9 hMe hoks2
      go_wp2_with fail
      refine Go.Proofs.YtibjkhepedfpiaaDoor.Q.region_ext (by kernel_rfl) (by kernel_rfl) ?_
      repeat (go_big_quiet_step ((go_at_call 20;refine ext_call (kl _))))
      refine wpQuiet_nil ?_;rintro w9 ⟨pq,rfl⟩;have HM2:=Lib.hid (HMi.below (below_ext wr pq));have HB2:=Lib.hid (blk_ext hbx pq);have ke:=empty_any (ext wr pq) (HW.out.be HM2.out.be);clear kl c1 hbx HMi
      go_wp2_with fail
      (with_reducible refine(ke).mono ?_);rintro e1 W2 ⟨rfl,hb2⟩
      have HM3:=HM2.out.below hb2;have HB3:=Blk.below HB2.out hb2 (Blk.lt HB2.out);have kw:=write_grow g (g+2) v1 _ (str (pkBy nilPk)) W2 HM3.b (by rw[hlM,str_size,pkBy_len nil_ok];omega);rw[str_cells,bl_str,cells_app,←HSN.out]at kw;clear ke hb2 HM2 HB2
      go_wp2_with fail
      (with_reducible refine(kw).mono ?_);rintro e1 W3 ⟨rfl,v2,hv2,hG2⟩
      have HM4:=HM3.write hG2 hv2;have HB4:Blk W3 bk 35 #[.int .i64 pid,.int .i64 at_,.slice sa ns sc]:=(hG2.block bk (Blk.lt HB3) (by omega) (HM3.b.ne HB3 (by decide))).trans HB3;have hbl2:=HM4.b.bLen;rw[HSN.out,←cells_app,List.length_append,hlM,Lib.byteCells,List.length_map,pkBy_len nil_ok]at hbl2;clear kw hv2 hG2 HM3 HB3
      go_wp2_with fail
      go_roundw
      case rel=>exact⟨k+1,v2,hkk,HB4,HM4⟩
      case measure=>omega
     ·have t3:decide (((188*(OUT.length+k):Nat):Int)<at_*188)=false:=decide_eq_false (by omega)
      obtain rfl:k=at_.toNat-OUT.length:=by omega
      obtain⟨K,hK⟩: ∃K,at_.toNat-OUT.length=K:=⟨_,rfl⟩;rw[hK]at kl t3 hlM HSO HMi hoks2;obtain⟨M,hMe⟩: ∃M,188*(OUT.length+K)=M:=⟨_,rfl⟩;rw[hMe]at kl t3 hlM;have hM9:M≤197132288:=by omega
      obtain⟨OU2,hOU2⟩: ∃o,OUT++List.replicate K nilPk=o:=⟨_,rfl⟩;rw[hOU2]at HMi HSO hlM hoks2;clear hlt9 hMe hK hbl hOU2 hoks hea hk
      go_wp2_with fail
      refine Go.Proofs.YtibjkhepedfpiaaDoor.Q.region_ext (by kernel_rfl) (by kernel_rfl) ?_
      repeat (go_big_quiet_step ((go_at_call 20;refine ext_call (kl _))))
      refine wpQuiet_nil ?_;rintro w9 ⟨pq,rfl⟩;have HM2:=HMi.below (below_ext wr pq);have HB2:=Lib.hid (blk_ext hbx pq);clear kl c1 hbx HMi;have d0:=Blk.cell (HB2.out) 0 (v:= .int .i64 pid) rfl;have d1:=Blk.cell (HB2.out) 1 (v:= .int .i64 at_) rfl;have d2:=Blk.cell (HB2.out) 2 (v:= .slice sa ns sc) rfl;have HM3:=Lib.hid HM2;obtain⟨_,⟨D,hmap,hD⟩,_,_⟩:=HM2;have hkey:keyOf Tryd.prog 3 (.int .i64 pid)=some (.int .i64 pid):=keyOf_int_mk Tryd.underlying3 (WalkArith.wf_i64 (by omega))
      go_wp2_with (first|(at_lookup;refine wpList_lookup_own_int _ rfl _ _ 62 rfl 3 3 .i64 keyM Tryd.underlying62 Tryd.underlying3 (zeroM _) (g+1) q D rfl hmap _ _ rfl hkey ?_;intro c hat hwc)|fail)
      obtain rfl:c=(NX pid:Int):=by
       have h1:=(hD pid).symm.trans hat;injection h1 with h1
       injection h1 with _ h1
       exact h1.symm
      have kp:Calls Tryd.prog 23 #[.int .i64 pid,.int .i64 (NX pid:Int),.slice sa ns sc] (ext wr pq) fun e w'=>(∃ao cap,e= .returned (.tuple #[.slice ao (nS S) cap,.int .i64 (((NX pid+nS S)%16:Nat):Int),.int .i64 0])∧Seq enPk 5 w' ao (pks pid (NX pid) S (nS S)))∧Below (ext wr pq).heap.size (ext wr pq) w':=
       (pack_any pid (NX pid) sa ns sc S (ext wr pq) hr1 (by omega) hnx hns (by omega) hcap (hsq.below (Nat.le_refl _) HM3.out.be) (fun s hs=>by have:=hns5 s hs;omega)).mono (fun e w' h=>⟨by have:=h.1;rw[if_pos hf]at this;exact this,h.2⟩)
      have HNS:=Lib.hid (show ∀x:Int,(if x=pid then(NX pid+nS S)%16 else NX x)=if x=pid then(NX pid+nS S)%16 else NX x from fun _=>rfl);obtain⟨N,hN⟩: ∃N,nS S=N:=⟨_,rfl⟩;rw[hN]at kp HSO HP hN3;obtain⟨m,hm⟩: ∃m,(NX pid+N)%16=m:=⟨_,rfl⟩;rw[hm]at kp HSO;have hm9:m<16:=by omega
      have q1:(m:Int)%16=(m:Int):=by omega
      have q2:(m:Int).tmod 16=(m:Int):=by rw[Int.tmod_eq_emod_of_nonneg (by omega)];exact q1
      have z1:(m:Int)≤15:=by omega
      obtain⟨PL,hPL⟩: ∃l,pks pid (NX pid) S N=l:=⟨_,rfl⟩;have HPN:=Lib.hid (show PL.length=N from by rw[←hPL];exact pks_len _ _ _ _);rw[hPL]at kp HSO HP;clear hat hwc hD hmap HNS hN hm hPL hmE h0 hf hks hnx hsm hns5 hsq hns d0 d1 d2
      go_wp2_with fail
      (with_reducible refine(kp).mono ?_);rintro e1 W3 ⟨⟨ao,cap,rfl,hsq3⟩,hb3⟩
      have HM5:=HM3.out.below hb3;have HB5:=Blk.below HB2.out hb3 (Blk.lt HB2.out);have kb:=bytes_any ao N cap PL W3 (HW.out.be HM5.be) HPN.out (by omega) hsq3 HP.out;clear kp hsq3 HM3 HB2 hb3
      go_wp2_with fail
      (with_reducible refine(kb).mono ?_);rintro e1 W4 ⟨rfl,hb4⟩
      have HM6:=HM5.below hb4;have HB6:=Blk.below HB5 hb4 (Blk.lt HB5);have kw:=write_grow g (g+2) v1 _ (str (airL PL)) W4 HM6.b (by rw[hlM,str_size,airL_len HP.out,HPN.out];omega);rw[str_cells,bl_str,cells_app,←airL_app]at kw;clear kb hb4 HM5 HB5
      go_wp2_with fail
      (with_reducible refine(kw).mono ?_);rintro e1 W5 ⟨rfl,v2,hv2,hG2⟩
      have HM7:=HM6.write hG2 hv2;have HB7:Blk W5 bk 35 #[.int .i64 pid,.int .i64 at_,.slice sa ns sc]:=(hG2.block bk (Blk.lt HB6) (by omega) (HM6.b.ne HB6 (by decide))).trans HB6;have c0:=Blk.cell HB7 0 (v:= .int .i64 pid) rfl;clear kw hv2 hG2 HM6 HB6;have HM8:=Lib.hid HM7;obtain⟨_,⟨D2,hmap2,hD2⟩,_,_⟩:=HM7
      go_wp2_with (first|(at_mapUpdate;refine wpList_mapUpdate_own _ rfl _ _ _ 62 rfl 3 3 keyM Tryd.underlying62 _ (g+1) q _ rfl hmap2 (by unfold maxLen;omega) _ _ _ rfl rfl hkey _ [] (plainElem_int Tryd.underlying3 (WalkArith.wf_i64 (by omega))) ?_;intro w5 hown5 hgrow5)|fail)
      have HFin:=Lib.hid (show Lw w w5 g (q+1) v2 (OU2++PL) (fun x=>if x=pid then m else NX x)from by
       have hb:=HM8.out.b;have hme: ∃es,D2= .map es:=by obtain⟨es,clock,h1,h2,h3,h4⟩:=hmap2;exact⟨_,h4⟩
       refine⟨hb.kept hgrow5 (by simp) (by
        cases ho:v2.ownBlock with
        |none=>exact Or.inl rfl
        |some r=>exact Or.inr (fun e=>by injection e with e;have:=(hb.own.lt r ho).1;omega)),⟨_,hown5,fun x=>?_⟩,?_,hg1⟩
       ·by_cases hx:x=pid
        ·subst hx
         rw[if_pos rfl,atKey_put_same hme (by trivial)]
        ·rw[if_neg hx,atKey_put_other (fun e=>hx (by injection e))]
         exact hD2 x
       ·exact HM8.out.be.trans (below_of_only hgrow5 (HM8.out.be.size) (fun k hk=>by injection hk with hk;omega)))
      clear hown5 hgrow5 HM8 hmap2 hD2 HB7 c0
      go_wp2_with fail
      go_roundw
      case rel=>exact⟨q+1,v2,by omega,by go_num,HOK2,by rw[HSO.out.1,HSO.out.2];exact HFin.out⟩
      case measure=>simp[intOf];omega
   ·obtain rfl:q=n:=by omega
    have t1:decide (q<q)=false:=by simp
    have hall:(L.map Bu.b).take q=L.map Bu.b:=List.take_of_length_le (by rw[List.length_map,HN.out];exact Nat.le_refl _);rw[hall]at HM;have ks:=str_bv g (g+2) v _ wr HM.b;have hbe:=Lib.hid HM.be;clear HM HOK hall
    go_wp2_with fail
    (with_reducible refine(ks).mono ?_);rintro e1 W3 ⟨rfl,hb3⟩
    have hb4:=hbe.out.trans (hb3.mono hg1)
    go_wp2_with fail
    go_ret2
    exact⟨by rw[HB.out];rfl,hb4⟩
 ·have HX:=Lib.hid (show layB (L.map Bu.b)=nob from if_neg hE)
  have t9:(checkE 0 (L.map Bu.b)==0)=false:=beq_eq_false_iff_ne.2 hE;obtain⟨E,hEe⟩: ∃E,checkE 0 (L.map Bu.b)=E:=⟨_,rfl⟩;rw[hEe]at kc t9 ⊢;clear hL hn hok hsm hW hE hEe
  go_enter Tryd.func10,Tryd.ntmps10
  go_wp2_with fail
  (with_reducible refine(kc).mono ?_);rintro e1 W1 ⟨rfl,hb1⟩
  go_wp2_with fail
  go_ret2
  exact⟨by rw[HX.out];rfl,hb1⟩
end Go.Proofs.YtibjkhepedfpiaaDoor.PkL
