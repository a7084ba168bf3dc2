import Derived.Test.YtibjkhepedfpiaaDoorSlRdV
import Derived.Test.YtibjkhepedfpiaaDoorSlRdS
import Derived.Test.YtibjkhepedfpiaaDoorSlLyA
import Derived.Test.YtibjkhepedfpiaaDoorSlStA
import Derived.Test.YtibjkhepedfpiaaDoorSlSlT
import Derived.Test.YtibjkhepedfpiaaDoorSlSlQ
namespace Go.Proofs.YtibjkhepedfpiaaDoor.LyB
open Go Go.RowKit Mem St BiH SeG PaA PaR PaP PaN PaK SlM SlP SlR SlS SlW PkP PkY PkL RdP RdQ RdW RdV RdS LyP LyA StP
theorem lay_fold: ∀(L:List Br) (s:Lst),LayOk s L→(∀b∈L,Small b)→LayOk (L.foldl layStep s) []
 |[],_,h,_=>h
 |b::t,s,h,hs=>lay_fold t _ (h.step (hs b (by simp))) (fun x hx=>hs x (by simp[hx]))
theorem lay_ok {L:List Br} (h:checkE 0 L=0) (hs: ∀b∈L,Small b):LayOk (layF L) []:=
 lay_fold L _ ⟨h,fun p hp=>(by cases hp),fun x=>(by show 0<16;omega),by show 0≤1080000;omega⟩ hs
theorem map_bl_inj: ∀(a b:List ByteArray),a.map bl=b.map bl→a=b
 |[],[],_=>rfl
 |[],_::_,h=>by simp at h
 |_::_,[],h=>by simp at h
 |x::a,y::b,h=>by
  rw[List.map_cons,List.map_cons]at h;injection h with h1 h2
  rw[bl_inj h1,map_bl_inj a b h2]
noncomputable def got (x:Int) (L:List Br):Rs:=rdUp x (layF L).out (layF L).out.length
theorem got_is {L:List Br} (h:checkE 0 L=0) (x:Int) (hx:x≠8191):(got x L).T=((bsOf x L).map Br.S).flatten∧(got x L).n=((bsOf x L).map fun b=>nS b.S).sum∧(got x L).held=nob:=by
 obtain⟨h1,h2,h3,h4⟩:=lay_read h x hx;obtain⟨u1,u2⟩:=up_fold x (layF L).out _ (Nat.le_refl _);rw[List.take_of_length_le (Nat.le_refl _)]at u1 u2;rw[h1]at u1;injection u1 with u1 u3
 refine⟨map_bl_inj _ _ ?_,by rw[←h4];exact u2,bl_nob.2 u3⟩;show(rdUp x (layF L).out (layF L).out.length).T.map bl=_;rw[u1,List.map_flatten,List.map_map];rfl
theorem read_lay (x:Int) (L:List Br) (w:World) (h:checkE 0 L=0) (hs: ∀b∈L,Small b) (hx:x≠8191):Calls Tryd.prog 12 #[.string (layB L),.int .i64 x] w (GotOk w (got x L)):=by
 have hk:=lay_ok h hs;obtain⟨h1,h2,h3,h4⟩:=lay_read h x hx;rw[show layB L=str (airL (layF L).out)from if_pos h];exact read_any x (layF L).out w hk.ok (by have:=hk.len;omega) (good_all h2 h3) (got_is h x hx).2.2
theorem got_slots {b:Br} (h:checkE 0 [b]=0):(got b.pid [b]).sl=(stS (b.at_-1) 0 (b.S.map ByteArray.size)).map Prod.fst∧(got b.pid [b]).en=(stS (b.at_-1) 0 (b.S.map ByteArray.size)).map Prod.snd:=by
 obtain⟨h1,h2,_,_⟩:=checkE_cons h;have hx:b.pid≠8191:=by have:=h1.2.1;omega
 have e:(layF [b]).out=List.replicate b.at_.toNat nilPk++pks b.pid 0 b.S (nS b.S):=by
  show([]++List.replicate (b.at_.toNat-0) nilPk++pks b.pid 0 b.S (nS b.S))=_;simp
 have hl:(layF [b]).out.length=b.at_.toNat+nS b.S:=by rw[e,List.length_append,List.length_replicate,pks_len]
 have:=burst_slots (k0:=b.at_.toNat) hx 0 (many_first h2).2;unfold got;rw[hl,e];rw[show((b.at_.toNat:Nat):Int)=b.at_ by have:=h1.2.2.1;omega]at this;exact this
end Go.Proofs.YtibjkhepedfpiaaDoor.LyB
namespace Go.Proofs.YtibjkhepedfpiaaDoor.LyM
open Go St BiH SeG PaA PaR PaP PaN PaK SlM SlP SlR SlS SlW PkP PkY PkL LyP LyA LyB
def seen (x:Int) (M:List Br):Bool:=M.any (fun y=>decide (y.pid=x))
theorem seen_step {L:List Br} {k:Nat} {y:Br} (h:L[k]? =some y) (x:Int):seen x (L.take (k+1))=(seen x (L.take k)||decide (y.pid=x)):=by
 unfold seen;rw[List.take_add_one,h,List.any_append];simp
theorem sum_or (f:Br→Nat) (p q:Br→Bool): ∀(M:List Br),(∀x∈M,¬(p x=true∧q x=true))→((M.filter (fun x=>p x||q x)).map f).sum=((M.filter p).map f).sum+((M.filter q).map f).sum
 |[],_=>rfl
 |a::t,h=>by
  have ih:=sum_or f p q t (fun x hx=>h x (by simp[hx]));have ha:=h a (by simp)
  cases hp:p a<;>cases hq:q a
  ·rw[List.filter_cons_of_neg (by simp[hp,hq]),List.filter_cons_of_neg (by simp[hp]),List.filter_cons_of_neg (by simp[hq])];exact ih
  ·rw[List.filter_cons_of_pos (by simp[hp,hq]),List.filter_cons_of_neg (by simp[hp]),List.filter_cons_of_pos (by simp[hq])]
   simp only[List.map_cons,List.sum_cons,ih];omega
  ·rw[List.filter_cons_of_pos (by simp[hp,hq]),List.filter_cons_of_pos (by simp[hp]),List.filter_cons_of_neg (by simp[hq])]
   simp only[List.map_cons,List.sum_cons,ih];omega
  ·exact absurd ⟨hp,hq⟩ ha
noncomputable def cntN (x:Int) (M:List Br):Nat:=((bsOf x M).map fun b=>nS b.S).sum
def wantL (x:Int) (M:List Br):List ByteArray:=((bsOf x M).map Br.S).flatten
noncomputable def usedU (L:List Br) (i:Nat):Nat:=((L.filter (fun b=>seen b.pid (L.take i))).map fun b=>nS b.S).sum
theorem used_zero (L:List Br):usedU L 0=0:=by
 unfold usedU;rw[List.filter_eq_nil_iff.2 (fun b _=>by simp[seen])];rfl
theorem used_step {L:List Br} {i:Nat} {b:Br} (h:L[i]? =some b):usedU L (i+1)=usedU L i+if seen b.pid (L.take i)then 0 else cntN b.pid L:=by
 unfold usedU
 have e:(fun y:Br=>seen y.pid (L.take (i+1)))=fun y=>seen y.pid (L.take i)||decide (y.pid=b.pid):=by
  funext y
  rw[seen_step h]
  congr 1
  exact decide_eq_decide.2 ⟨fun e=>e.symm,fun e=>e.symm⟩
 rw[e];by_cases hs:seen b.pid (L.take i)=true
 ·rw[if_pos hs,Nat.add_zero]
  congr 2
  apply List.filter_congr;intro y _;by_cases hy:y.pid=b.pid
  ·rw[hy,hs];rfl
  ·rw[decide_eq_false hy,Bool.or_false]
 ·rw[if_neg hs,sum_or]
  ·rfl
  ·rintro y _ ⟨h1,h2⟩
   rw[of_decide_eq_true h2]at h1;exact hs h1
theorem used_all (L:List Br):usedU L L.length=(L.map fun b=>nS b.S).sum:=by
 unfold usedU;rw[List.take_length,List.filter_eq_self.2];intro b hb;unfold seen;rw[List.any_eq_true];exact⟨b,hb,decide_eq_true rfl⟩
theorem bs_step {L:List Br} {k:Nat} {y:Br} (h:L[k]? =some y) (x:Int):bsOf x (L.take (k+1))=bsOf x (L.take k)++if y.pid=x then[y]else[]:=by
 unfold bsOf;rw[List.take_add_one,h,List.filter_append]
 congr 1
 split
 ·rename_i hy;rw[Option.toList,List.filter_cons_of_pos (by simpa using hy)];rfl
 ·rename_i hy;rw[Option.toList,List.filter_cons_of_neg (by simpa using hy)];rfl
theorem bs_none {L:List Br} {i:Nat} {x:Int} (h:seen x (L.take i)=false):bsOf x (L.take i)=[]:=by
 unfold bsOf;rw[List.filter_eq_nil_iff];intro y hy he
 have:seen x (L.take i)=true:=by
  unfold seen;rw[List.any_eq_true];exact⟨y,hy,he⟩
 rw[h]at this
 cases this
theorem out_len: ∀(L:List Br) (s:Lst),checkE (s.out.length:Int) L=0→((L.foldl layStep s).out.length:Int)=endE (s.out.length:Int) L
 |[],_,_=>rfl
 |b::t,s,h=>by
  obtain⟨h1,h2,h3,h4⟩:=checkE_cons h
  have hl:(layStep s b).out.length=b.at_.toNat+nS b.S:=by
   unfold layStep;simp only[List.length_append,List.length_replicate,pks_len];omega
  have h5:=h1.2.2.1;have e:((layStep s b).out.length:Int)=b.at_+nS b.S:=by omega
  have em:(manyN b.S:Int)=nS b.S:=by unfold manyN nS;rw[if_pos h2]
  rw[List.foldl_cons,endE,em,←e];exact out_len t _ (by rw[e];exact h4)
theorem lay_len {L:List Br} (h:checkE 0 L=0):((layF L).out.length:Int)=endE 0 L:=out_len L ⟨[],fun _=>0⟩ h
theorem nil_fold: ∀(L:List Br) (s:Lst),(∀b∈L,b.pid≠8191)→(∀p∈s.out,p.pid=8191→p=nilPk)→ ∀p∈(L.foldl layStep s).out,p.pid=8191→p=nilPk
 |[],_,_,h=>h
 |b::t,s,hb,h=>nil_fold t _ (fun x hx=>hb x (by simp[hx])) (fun p hp he=>by
  unfold layStep at hp;simp only[List.mem_append]at hp;rcases hp with(hp|hp)|hp
  ·exact h p hp he
  ·exact List.eq_of_mem_replicate hp
  ·obtain⟨k,_,rfl⟩:=List.mem_map.1 hp
   exact absurd he (hb b (by simp)))
theorem pid_ok {L:List Br} (h:checkE 0 L=0): ∀b∈L,b.pid≠8191:=fun b hb=>by
 have:=(firsts_ok L 0 h b hb).1.2.1;omega
theorem nil_iff {L:List Br} (h:checkE 0 L=0) (hs: ∀b∈L,Small b) {p:Pkt} (hp:p∈(layF L).out):str (pkBy p)=str (pkBy nilPk)↔p.pid=8191:=by
 constructor
 ·intro e
  have e2:=congrArg bl e;rw[bl_str,bl_str]at e2;exact nil_bytes ((lay_ok h hs).ok p hp) e2
 ·intro e
  rw[nil_fold L ⟨[],fun _=>0⟩ (pid_ok h) (fun p hp=>by cases hp) p hp e]
def nilN (P:List Pkt) (i:Nat):Nat:=(ofPid 8191 (P.take i)).length
theorem nil_step {P:List Pkt} {i:Nat} {p:Pkt} (h:P[i]? =some p):nilN P (i+1)=nilN P i+if p.pid=8191 then 1 else 0:=by
 unfold nilN;rw[List.take_add_one,h,ofPid_app,List.length_append]
 congr 1
 unfold ofPid;rw[Option.toList];by_cases hp:p.pid=8191
 ·rw[List.filter_cons_of_pos (by simpa using hp),if_pos hp];rfl
 ·rw[List.filter_cons_of_neg (by simpa using hp),if_neg hp];rfl
theorem nil_all {L:List Br} (h:checkE 0 L=0):nilN (layF L).out (layF L).out.length+(L.map fun b=>nS b.S).sum=(layF L).out.length:=by
 have:=nil_count L ⟨[],fun _=>0⟩ (pid_ok h);unfold nilN;rw[List.take_length];have e:(ofPid 8191 ([]:List Pkt)).length=0:=rfl;rw[show(⟨[],fun _=>0⟩:Lst).out=[]from rfl,e,List.length_nil]at this;exact this
theorem nil_list:pkBy nilPk=71::31::255::16::List.replicate 184 255:=by
 show pkB 8191 false 0 (bl (ff 184))=_;have hb:bl (ff 184)=List.replicate 184 255:=by unfold ff;rw[bl_str]
 unfold pkB;rw[hb,List.length_replicate,if_pos rfl,if_pos rfl,if_neg (by decide)];obtain⟨R,hR⟩: ∃R,List.replicate 184 (255:UInt8)=R:=⟨_,rfl⟩;rw[hR];rfl
theorem sum_sub (f:Br→Nat) (p:Br→Bool): ∀(M:List Br),((M.filter p).map f).sum≤(M.map f).sum
 |[]=>Nat.le_refl _
 |a::t=>by
  have ih:=sum_sub f p t
  cases hp:p a
  ·rw[List.filter_cons_of_neg (by simp[hp]),List.map_cons,List.sum_cons];omega
  ·rw[List.filter_cons_of_pos hp];simp only[List.map_cons,List.sum_cons];omega
theorem want_len (x:Int): ∀(M:List Br),(∀b∈M,b.S.length≤8)→(wantL x M).length≤8*M.length
 |[],_=>Nat.le_refl _
 |a::t,h=>by
  have ih:=want_len x t (fun b hb=>h b (by simp[hb]));have ha:=h a (by simp);unfold wantL bsOf at ih ⊢;by_cases hp:a.pid=x
  ·rw[List.filter_cons_of_pos (by simpa using hp),List.map_cons,List.flatten_cons,List.length_append,List.length_cons];omega
  ·rw[List.filter_cons_of_neg (by simpa using hp),List.length_cons];omega
theorem sum_take (f:Br→Nat) (M:List Br) (k:Nat):((M.take k).map f).sum≤(M.map f).sum:=by
 conv=>rhs;rw[←List.take_append_drop k M,List.map_append,List.sum_append]
 omega
theorem cnt_le (x:Int) (L:List Br) (k:Nat):cntN x (L.take k)≤(L.map fun b=>nS b.S).sum:=Nat.le_trans (sum_sub _ _ _) (sum_take _ _ _)
theorem used_le (L:List Br) (i:Nat):usedU L i≤(L.map fun b=>nS b.S).sum:=sum_sub _ _ _
theorem cnt_step {L:List Br} {k:Nat} {y:Br} (h:L[k]? =some y) (x:Int):cntN x (L.take (k+1))=cntN x (L.take k)+if y.pid=x then nS y.S else 0:=by
 unfold cntN;rw[bs_step h,List.map_append,List.sum_append]
 congr 1
 split<;>simp
theorem want_step {L:List Br} {k:Nat} {y:Br} (h:L[k]? =some y) (x:Int):wantL x (L.take (k+1))=wantL x (L.take k)++if y.pid=x then y.S else[]:=by
 unfold wantL;rw[bs_step h,List.map_append,List.flatten_append]
 congr 1
 split<;>simp
theorem cnt_none {L:List Br} {i:Nat} {x:Int} (h:seen x (L.take i)=false):cntN x (L.take i)=0∧wantL x (L.take i)=[]:=by
 unfold cntN wantL;rw[bs_none h];exact⟨rfl,rfl⟩
end Go.Proofs.YtibjkhepedfpiaaDoor.LyM
namespace Go.Proofs.YtibjkhepedfpiaaDoor.LyS
open Go Go.RowKit Q Mem Rg Ap ApG St CrB PaA PaK PaP SlM SlA SlB SlC SlP SlR SlS SlW SlX SlT SlOpn PkE PkL StP StA LyA LyB
set_option maxRecDepth 100000
theorem near_any (e:Int) (w:World):Calls Tryd.prog 9 #[.int .i64 e] w fun E w'=>E= .returned (.bool (decide (e<1000)))∧w=w':=by
 go_enter Tryd.func9,Tryd.ntmps9
 go_wp2_with fail
 go_ret;exact⟨rfl,rfl⟩
theorem rb_small {r:Rn} (h:fewR r) (hi: ∀p∈r.l,PcOk p):Small (rb r):=by
 obtain⟨h1,h2,h3⟩:=h;refine⟨by show(r.l.map Pc.bytes).length≤1000;rw[List.length_map];omega,fun s hs=>?_⟩;obtain⟨p,hp,rfl⟩:=List.mem_map.1 hs;exact SlQ.bytes_size p (h3 p hp) (hi p hp).2
set_option maxHeartbeats 6400000 in
theorem law_any (r:Rn) (w:World) (hW:Wid 0 w) (hin:RnIn w r):
 Calls Tryd.prog 4 #[.agg #[.int .i64 r.pid,.int .i64 r.at_,.slice r.la r.l.length r.lc]] w fun e w'=>e= .returned (.bool true)∧Below w.heap.size w w':=by
 have hen:enRn r=[.int .i64 r.pid,.int .i64 r.at_,.slice r.la r.l.length r.lc]:=rfl;have kf:=fun(V:World) (g:Nat) (hB:Blk V g 45 #[.int .i64 r.pid,.int .i64 r.at_,.slice r.la r.l.length r.lc]) (hb:Below w.heap.size w V)=>few_any (some ⟨g,0,none⟩) 1 1 [r] V rfl (by decide) (seq_blk (sz:=3) (fun _=>rfl) hB (by simp[flat,hen])) (fun y hy=>by simp at hy;rw[hy];exact⟨hin.1.below (Nat.le_refl _) hb,hin.2.1⟩)
 have hfew:fewB [r]=decide (fewR r):=by
  unfold fewB;simp
 rw[hfew]at kf;have HW:=Lib.hid hW;by_cases hfr:fewR r
 ·rw[decide_eq_true hfr]at kf
  have kb:=fun(V:World) (g:Nat) (hB:Blk V g 45 #[.int .i64 r.pid,.int .i64 r.at_,.slice r.la r.l.length r.lc]) (hb:Below w.heap.size w V)=>bursts_any (some ⟨g,0,none⟩) 1 1 [r] V rfl (by decide) (seq_blk (sz:=3) (fun _=>rfl) hB (by simp[flat,hen])) (fun y hy=>by simp at hy;rw[hy];exact⟨hin.1.below (Nat.le_refl _) hb,hin.2⟩) (fun y hy=>by simp at hy;rw[hy];exact hfr.1);have hsB:=rb_small hfr hin.2.2;obtain⟨B,hB⟩: ∃B,rb r=B:=⟨_,rfl⟩;rw[show[r].map rb=[B] by rw[←hB];rfl]at kb;have HBB:=Lib.hid (show Small B∧B.S.length≤8∧B.pid=r.pid∧B.at_=r.at_ from by rw[←hB];exact⟨hsB,by show(r.l.map Pc.bytes).length≤8;rw[List.length_map];exact hfr.1,rfl,rfl⟩);obtain⟨pid,at_,la,lc,l⟩:=r;dsimp only at kf kb HBB ⊢;obtain⟨M,hM⟩: ∃M,l.length=M:=⟨_,rfl⟩;rw[hM]at kf kb ⊢;have hb1:Below w.heap.size w ((w.alloc (.cells #[.int .i64 pid,.int .i64 at_,.slice la M lc] 45)).alloc (.cells #[.int .i64 pid,.int .i64 at_,.slice la M lc] 45)):=((Below.refl _ _).alloc (Nat.le_refl _) _).alloc (by simp) _;have kf1:=kf _ (w.heap.size+1) (Blk.newAt (w.alloc (.cells #[.int .i64 pid,.int .i64 at_,.slice la M lc] 45)) 45 #[.int .i64 pid,.int .i64 at_,.slice la M lc] (by simp)) hb1;have hb1':=hb1.alloc hb1.size (.cells #[.int .i64 pid,.int .i64 at_,.slice la M lc] 45);have kb1:=kb _ (w.heap.size+2) (Blk.newAt ((w.alloc (.cells #[.int .i64 pid,.int .i64 at_,.slice la M lc] 45)).alloc (.cells #[.int .i64 pid,.int .i64 at_,.slice la M lc] 45)) 45 #[.int .i64 pid,.int .i64 at_,.slice la M lc] (by simp)) hb1';have hk1:Blk (((w.alloc (.cells #[.int .i64 pid,.int .i64 at_,.slice la M lc] 45)).alloc (.cells #[.int .i64 pid,.int .i64 at_,.slice la M lc] 45)).alloc (.cells #[.int .i64 pid,.int .i64 at_,.slice la M lc] 45)) w.heap.size 45 #[.int .i64 pid,.int .i64 at_,.slice la M lc]:=Blk.alloc (Blk.alloc (Blk.new _ _ _) _) _;clear kf kb hsB hB hM hen hfew hin hW hfr hb1
  go_enter Tryd.func4,Tryd.ntmps4
  go_wp2_with fail
  (with_reducible refine(kf1).mono ?_);rintro e1 W1 ⟨rfl,rfl⟩
  clear kf1
  go_wp2_with fail
  (with_reducible refine(kb1).mono ?_);rintro e2 W2 ⟨v,D,rfl,hD,hown,hDok,hb2⟩
  have hbW:=hb1'.trans (hb2.mono hb1'.size);have hk2:=Blk.below hk1 hb2 hk1.lt;clear kb1 hb1' hk1 hb2
  obtain⟨d,rfl,hd⟩: ∃d,D=[d]∧d.b=B:=by
   match D,hD with
   |[d],h=>exact⟨d,rfl,by simpa using h⟩
  obtain⟨ad,cd,rfl,hcd⟩:=own_cap hown;have hsq:=own_seq (en:=enBu) enBu_len hown rfl;have hdk:=hDok d (by simp);have kw:=wrong_any ad 1 cd [d] W2 rfl (by decide) hsq hDok (fun y hy=>by simp at hy;rw[hy,hd];exact HBB.out.1);rw[show[d].map Bu.b=[B] by rw[←hd];rfl]at kw;obtain⟨b0,o0,rfl,hlt,hc⟩:=hsq 0 d rfl;have HC:=Lib.hid (And.intro (hc 0 _ rfl) (And.intro (hc 1 _ rfl) (hc 2 _ rfl)));have HDK:=Lib.hid hdk;have HSQ:=Lib.hid hsq;have HD:=Lib.hid hd;clear hown hcd hsq hdk hDok hc hd hD;obtain⟨⟨dp,da,S⟩,sa,sc⟩:=d;obtain rfl:B=⟨dp,da,S⟩:=HD.out.symm;dsimp only at HC HDK HSQ HBB;obtain⟨n,hn⟩: ∃n,S.length=n:=⟨_,rfl⟩;have HN:=Lib.hid hn;have ks:=fun V hV=>starts_any ⟨⟨dp,da,S⟩,sa,sc⟩ V hV HBB.out.1;dsimp only at ks;rw[hn]at HC ks;obtain rfl:dp=pid:=HBB.out.2.2.1;obtain rfl:da=at_:=HBB.out.2.2.2;clear HD hn
  have cc: ∀W,Below W2.heap.size W2 W→W.cell? ⟨b0,o0,none⟩=some (.int .i64 dp)∧W.cell? ⟨b0,o0+1,none⟩=some (.int .i64 da)∧W.cell? ⟨b0,o0+2,none⟩=some (.slice sa n sc):=fun W hW=>by
   obtain⟨h0,h1,h2⟩:=HC.out;rw[off_eq,Nat.zero_mul,Nat.add_zero]at h0 h1 h2;exact⟨(hW.cell (p:=⟨b0,o0,none⟩) hlt).trans h0,(hW.cell (p:=⟨b0,o0+1,none⟩) hlt).trans h1,(hW.cell (p:=⟨b0,o0+2,none⟩) hlt).trans h2⟩
  have HCC:=Lib.hid cc;clear cc HC;by_cases hce:checkE 0 [⟨dp,da,S⟩]=0
  ·have ks1:=fun V hV=>(ks V hV).mono fun e w' h=>h.ok hce
   rw[if_pos hce,hce]at kw;obtain⟨en,hen⟩: ∃en,endE 0 [⟨dp,da,S⟩]=en:=⟨_,rfl⟩;rw[hen]at kw;have HEN:=Lib.hid hen;have HCE:=Lib.hid hce;clear ks hen hce
   go_wp2_with fail
   (with_reducible refine(kw).mono ?_);rintro e3 W3 ⟨rfl,hb3⟩
   obtain⟨c0,c1,c2⟩:=HCC.out W3 hb3;have ks2:=ks1 W3 (HDK.out.below (Nat.le_refl _) hb3);clear kw ks1
   go_wp2_with fail
   (with_reducible refine(ks2).mono ?_);rintro e4 W4 ⟨v1,v2,rfl,hS⟩
   have HS:=Lib.hid hS;have hb4:=hb3.trans (hS.be.mono hb3.size);obtain⟨d0,d1,d2⟩:=HCC.out W4 hb4;clear ks2 c0 c1 c2 hS;obtain⟨L1,hL1⟩: ∃x,(stS (da-1) 0 (S.map ByteArray.size)).map Prod.fst=x:=⟨_,rfl⟩;obtain⟨L2,hL2⟩: ∃x,(stS (da-1) 0 (S.map ByteArray.size)).map Prod.snd=x:=⟨_,rfl⟩;have hl1:L1.length=n:=by rw[←hL1,List.length_map,stS_len,List.length_map,HN.out]
   have hl2:L2.length=n:=by rw[←hL2,List.length_map,stS_len,List.length_map,HN.out]
   rw[hL1,hL2]at HS;have o1:=HS.out.o1;have o2:=HS.out.o2;rw[hl1]at o1;rw[hl2]at o2;obtain⟨a1,k1,rfl⟩:=own_form o1;obtain⟨a2,k2,rfl⟩:=own_form o2;have HQ:=Lib.hid (And.intro (own_seq (en:=en1) (fun _=>rfl) o1 hl1) (own_seq (en:=en1) (fun _=>rfl) o2 hl2));have HLL:=Lib.hid (And.intro (And.intro hL1 hL2) (And.intro hl1 hl2));have hn8:n≤8:=by rw[←HN.out];exact HBB.out.2.1
   clear o1 o2 hL1 hL2 hl1 hl2 HS;by_cases hne:en<1000
   ·have t1:decide (en<1000)=true:=decide_eq_true hne
    have hbT:=hbW.trans (hb4.mono hbW.size);have kl:=lay_any (some ⟨b0,o0,none⟩) 1 cd [⟨⟨dp,da,S⟩,sa,sc⟩] W4 (HW.out.be hbT) rfl (by decide) (HSQ.out.below (Nat.le_refl _) hb4) (fun y hy=>by simp at hy;rw[hy];exact HDK.out.below (Nat.le_refl _) hb4) (fun y hy=>by simp at hy;rw[hy];exact HBB.out.1);rw[show[(⟨⟨dp,da,S⟩,sa,sc⟩:Bu)].map Bu.b=[⟨dp,da,S⟩]from rfl,HCE.out]at kl;have hx:dp≠8191:=by have:=(checkE_cons HCE.out).1.2.1;dsimp only at this;omega
    have kr:=fun V=>(read_lay dp [⟨dp,da,S⟩] V HCE.out (fun y hy=>by simp at hy;rw[hy];exact HBB.out.1) hx).mono fun e w' h=>And.intro h.ex h.be;obtain⟨X,hX⟩: ∃X,layB [⟨dp,da,S⟩]=X:=⟨_,rfl⟩;rw[hX]at kl kr;have hgs:=got_slots HCE.out;dsimp only at hgs;rw[HLL.out.1.1,HLL.out.1.2]at hgs;obtain⟨G,hG⟩: ∃G,RdW.Rs.mk (got dp [⟨dp,da,S⟩]).T L1 L2 (got dp [⟨dp,da,S⟩]).held (got dp [⟨dp,da,S⟩]).fr (got dp [⟨dp,da,S⟩]).n=G:=⟨_,rfl⟩;have hGe:got dp [⟨dp,da,S⟩]=G:=by rw[←hG,←hgs.1,←hgs.2]
    rw[hGe]at kr;have hG1:G.sl=L1:=by rw[←hG]
    have hG2:G.en=L2:=by rw[←hG]
    rw[hG1,hG2,HLL.out.2.1,HLL.out.2.2]at kr;have hk4:=Blk.below hk2 hb4 hk2.lt;clear hX hG hGe hG1 hG2 hgs hk2 hx
    go_wp2_with fail
    (with_reducible refine(near_any en _).mono ?_);rintro e5 W5 ⟨rfl,rfl⟩
    go_wp2_with fail
    (with_reducible refine(kl).mono ?_);rintro e6 W6 ⟨rfl,hb6⟩
    have hk6:=Blk.below hk4 hb6 hk4.lt;have f0:=Blk.cell hk6 0 (v:= .int .i64 dp) rfl;clear kl hk4 d0 d1 d2
    go_wp2_with fail
    (with_reducible refine(kr W6).mono ?_);rintro e7 W7 ⟨⟨x0,x1,x2,rfl,p0,p1,p2⟩,hb7⟩
    obtain⟨y0,z0,rfl⟩:=own_form p0;obtain⟨y1,z1,rfl⟩:=own_form p1;obtain⟨y2,z2,rfl⟩:=own_form p2;have HQ2:=Lib.hid (And.intro (own_seq (en:=RdW.enI) (fun _=>rfl) p1 HLL.out.2.1) (own_seq (en:=RdW.enI) (fun _=>rfl) p2 HLL.out.2.2));have hb8:=hb6.trans (hb7.mono hb6.size);clear p0 p1 p2 kr f0 hk6;have hk9:=Blk.new W7 39 #[.slice y0 G.T.length z0,.slice y1 n z1,.slice y2 n z2,.int .i64 (G.n:Int),.bool true];have hb9:=hb8.alloc hb8.size (.cells #[.slice y0 G.T.length z0,.slice y1 n z1,.slice y2 n z2,.int .i64 (G.n:Int),.bool true] 39);have hb79:=(Below.refl W7.heap.size W7).alloc (Nat.le_refl _) (.cells #[.slice y0 G.T.length z0,.slice y1 n z1,.slice y2 n z2,.int .i64 (G.n:Int),.bool true] 39);obtain⟨Wc,hWc⟩: ∃Wc,W7.alloc (.cells #[.slice y0 G.T.length z0,.slice y1 n z1,.slice y2 n z2,.int .i64 (G.n:Int),.bool true] 39)=Wc:=⟨_,rfl⟩;rw[hWc]at hk9 hb9 hb79;have f0:=Blk.cell (hk9) 0 (v:= .slice y0 G.T.length z0) rfl;have f1:=Blk.cell (hk9) 1 (v:= .slice y1 n z1) rfl;have f2:=Blk.cell (hk9) 2 (v:= .slice y2 n z2) rfl;have f3:=Blk.cell (hk9) 3 (v:= .int .i64 (G.n:Int)) rfl;have f4:=Blk.cell (hk9) 4 (v:= .bool true) rfl
    go_upto_region 14 with fail
    try rw[hWc]
    clear hWc
    go_wp2_with fail
    have HK9:=Lib.hid hk9;have HB9:=Lib.hid (And.intro hb9 hb79);clear f0 f1 f2 f3 f4 hk9 hb79
    go_loopw [12] (fun iv wr=> ∃q:Nat,q≤n∧iv= .int .i64 q∧Below Wc.heap.size Wc wr) (fun iv _=>n-(intOf iv).toNat)
    case atStart=>exact⟨0,by omega,rfl,Below.refl _ _⟩
    case round=>
     obtain⟨q,hq,rfl,hbr⟩:=hrel;by_cases hqn:q<n
     ·have t2:decide (q<n)=true:=decide_eq_true hqn
      obtain⟨e1,he1⟩: ∃e,L1[q]? =some e:=⟨_,List.getElem?_eq_getElem (by rw[HLL.out.2.1];exact hqn)⟩;obtain⟨e2,he2⟩: ∃e,L2[q]? =some e:=⟨_,List.getElem?_eq_getElem (by rw[HLL.out.2.2];exact hqn)⟩;obtain⟨B1,O1,rfl,l1,q1⟩:=HQ.out.1 q e1 he1;obtain⟨B2,O2,rfl,l2,q2⟩:=HQ.out.2 q e2 he2;obtain⟨B3,O3,rfl,l3,q3⟩:=HQ2.out.1 q e1 he1;obtain⟨B4,O4,rfl,l4,q4⟩:=HQ2.out.2 q e2 he2;have j0:(0:Int)≤(q:Int):=Int.natCast_nonneg _;have j1:(q:Int)<(n:Int):=by omega
      have r1:=q1 0 _ rfl;have r2:=q2 0 _ rfl;have r3:=q3 0 _ rfl;have r4:=q4 0 _ rfl;rw[off_eq,Nat.mul_one,Nat.add_zero]at r1 r2 r3 r4;have hx:=fun p=>HB9.out.1.trans ((hbr.trans ((below_ext wr p).mono hbr.size)).mono HB9.out.1.size);have hy:=fun p=>HB9.out.2.trans ((hbr.trans ((below_ext wr p).mono hbr.size)).mono HB9.out.2.size);have s1:=fun p=>((hx p).cell (p:=⟨B1,O1+q,none⟩) l1).trans r1;have s2:=fun p=>((hx p).cell (p:=⟨B2,O2+q,none⟩) l2).trans r2;have s3:=fun p=>((hy p).cell (p:=⟨B3,O3+q,none⟩) l3).trans r3;have s4:=fun p=>((hy p).cell (p:=⟨B4,O4+q,none⟩) l4).trans r4;have hk:=Blk.below HK9.out hbr HK9.out.lt;have f1:=fun pX=>Blk.cell (blk_ext (hk) pX) 1 (v:= .slice (some ⟨B3,O3,none⟩) n z1) rfl;have f2:=fun pX=>Blk.cell (blk_ext (hk) pX) 2 (v:= .slice (some ⟨B4,O4,none⟩) n z2) rfl;clear q1 q2 q3 q4 r1 r2 r3 r4 hx hy he1 he2 l1 l2 l3 l4 hk
      go_wp2_with fail
      refine Go.Proofs.YtibjkhepedfpiaaDoor.Q.region_ext (by kernel_rfl) (by kernel_rfl) ?_
      repeat (go_big_quiet_step (fail))
      refine wpQuiet_nil ?_;rintro w9 ⟨pq,rfl⟩;have hbq:=hbr.trans ((below_ext wr pq).mono hbr.size);clear s1 s2 s3 s4 f1 f2
      go_wp2_with fail
      go_roundw
      case rel=>exact⟨q+1,by omega,by go_num,hbq⟩
      case measure=>simp[intOf];omega
     ·obtain rfl:q=n:=by omega
      have t2:decide (q<q)=false:=by simp
      have hbz:=(hbT.trans (HB9.out.1.mono hbT.size)).trans (hbr.mono (by have:=hbT.size;have:=HB9.out.1.size;omega))
      go_wp2_with fail
      (with_reducible refine(awake_any _).mono ?_);rintro e8 W8 ⟨rfl,hb8⟩
      go_wp2_with fail
      go_ret;exact⟨rfl,(hbz).trans (hb8.mono (hbz).size)⟩
   ·have t1:decide (en<1000)=false:=decide_eq_false hne
    clear hk2
    go_wp2_with fail
    (with_reducible refine(near_any en _).mono ?_);rintro e5 W5 ⟨rfl,rfl⟩
    clear hne
    go_wp2_with fail
    (with_reducible refine(awake_any _).mono ?_);rintro e8 W8 ⟨rfl,hb8⟩
    go_wp2_with fail
    go_ret;exact⟨rfl,(hbW.trans (hb4.mono hbW.size)).trans (hb8.mono (hbW.trans (hb4.mono hbW.size)).size)⟩
  ·have ks1:=fun V hV=>(ks V hV).mono fun e w' h=>And.intro (h.bad hce) h.be
   rw[if_neg hce]at kw;obtain⟨CE,hCE⟩: ∃CE,checkE 0 [⟨dp,da,S⟩]=CE:=⟨_,rfl⟩;rw[hCE]at kw ks1 hce;have x0:(CE==0)=false:=beq_eq_false_iff_ne.2 hce;clear ks hCE hce hk2
   go_wp2_with fail
   (with_reducible refine(kw).mono ?_);rintro e3 W3 ⟨rfl,hb3⟩
   obtain⟨c0,c1,c2⟩:=HCC.out W3 hb3;have ks2:=ks1 W3 (HDK.out.below (Nat.le_refl _) hb3);clear kw ks1
   go_wp2_with fail
   (with_reducible refine(ks2).mono ?_);rintro e4 W4 ⟨rfl,hb4⟩
   have hb5:=hb3.trans (hb4.mono hb3.size);clear ks2 c0 c1 c2
   go_wp2_with fail
   (with_reducible refine(awake_any _).mono ?_);rintro e8 W8 ⟨rfl,hb8⟩
   go_wp2_with fail
   go_ret;exact⟨rfl,(hbW.trans (hb5.mono hbW.size)).trans (hb8.mono (hbW.trans (hb5.mono hbW.size)).size)⟩
 ·rw[decide_eq_false hfr]at kf
  obtain⟨pid,at_,la,lc,l⟩:=r;dsimp only at kf ⊢;obtain⟨M,hM⟩: ∃M,l.length=M:=⟨_,rfl⟩;rw[hM]at kf ⊢;have hb1:Below w.heap.size w ((w.alloc (.cells #[.int .i64 pid,.int .i64 at_,.slice la M lc] 45)).alloc (.cells #[.int .i64 pid,.int .i64 at_,.slice la M lc] 45)):=((Below.refl _ _).alloc (Nat.le_refl _) _).alloc (by simp) _;have kf1:=kf _ (w.heap.size+1) (Blk.newAt (w.alloc (.cells #[.int .i64 pid,.int .i64 at_,.slice la M lc] 45)) 45 #[.int .i64 pid,.int .i64 at_,.slice la M lc] (by simp)) hb1;clear kf hM hen hfew hin hW hfr
  go_enter Tryd.func4,Tryd.ntmps4
  go_wp2_with fail
  (with_reducible refine(kf1).mono ?_);rintro e1 W1 ⟨rfl,rfl⟩
  go_wp2_with fail
  (with_reducible refine(awake_any _).mono ?_);rintro e8 W8 ⟨rfl,hb8⟩
  go_wp2_with fail
  go_ret;exact⟨rfl,(hb1).trans (hb8.mono (hb1).size)⟩
end Go.Proofs.YtibjkhepedfpiaaDoor.LyS
namespace Go.Proofs.YtibjkhepedfpiaaDoor.LyL
open Go Go.RowKit Q Mem Rg Ap ApG St CrB BiG PaA PaR PaK PaP SlM SlA SlB SlC SlP SlR SlS SlW SlX SlT SlOpn PkE PkY PkL StP LyP LyA LyB LyM LyS
theorem nil_set (R:List UInt8):(((rowB (255::255::255::255::R) 0).setIfInBounds 0 (.int .u8 71)).setIfInBounds 1 (.int .u8 31)).setIfInBounds 3 (.int .u8 16)=rowB (71::31::255::16::R) 0:=by
 unfold rowB BiW.u8s;simp;exact⟨rfl,rfl,rfl⟩
set_option maxRecDepth 100000
set_option maxHeartbeats 12800000 in
theorem law_any (a:Option Addr) (n c:Nat) (L:List Rn) (w:World) (hW:Wid 0 w) (hn:L.length=n) (hl:n≤9223372036854775807) (hL:Seq enRn 3 w a L) (hin: ∀r∈L,RnIn w r):
 Calls Tryd.prog 3 #[.slice a n c] w fun e w'=>e= .returned (.bool true)∧Below w.heap.size w w':=by
 have kf:=few_any a n c L w hn hl hL (fun r hr=>⟨(hin r hr).1,(hin r hr).2.1⟩);obtain⟨F,hF⟩: ∃F,fewB L=F:=⟨_,rfl⟩;rw[hF]at kf;have HL:=Lib.hid hL;have HN:=Lib.hid hn;have HIN:=Lib.hid hin;have HF:=Lib.hid hF;have HW:=Lib.hid hW;clear hL hn hin hF hW
 cases F with
 |false=>
  go_enter Tryd.func3,Tryd.ntmps3
  go_wp2_with fail
  (with_reducible refine(kf).mono ?_);rintro e1 W1 ⟨rfl,rfl⟩
  go_wp2_with fail
  (with_reducible refine(awake_any _).mono ?_);rintro e8 W8 ⟨rfl,hb8⟩
  go_wp2_with fail
  go_ret;exact⟨rfl,(Below.refl w.heap.size w).trans (hb8.mono (Below.refl w.heap.size w).size)⟩
 |true=>
  have hfw:n≤8∧ ∀r∈L,fewR r:=by
   have h:=HF.out;unfold fewB at h;simp only[Bool.and_eq_true,decide_eq_true_eq,List.all_eq_true]at h;exact⟨by have:=h.2;rw[HN.out]at this;exact this,h.1⟩
  have hn8:=hfw.1;have kb:=bursts_any a n c L w HN.out (by omega) HL.out HIN.out (fun r hr=>(hfw.2 r hr).1)
  have hsm: ∀b∈L.map rb,Small b∧b.S.length≤8:=fun b hb=>by
   obtain⟨r,hr,rfl⟩:=List.mem_map.1 hb;exact⟨rb_small (hfw.2 r hr) (HIN.out r hr).2.2,by show(r.l.map Pc.bytes).length≤8;rw[List.length_map];exact(hfw.2 r hr).1⟩
  obtain⟨BL,hBL⟩: ∃BL,L.map rb=BL:=⟨_,rfl⟩;have hbl:BL.length=n:=by rw[←hBL,List.length_map,HN.out]
  rw[hBL]at kb hsm;have HSM:=Lib.hid hsm;have HBN:=Lib.hid hbl;clear hfw hsm hBL hbl HL HIN HF HN
  go_enter Tryd.func3,Tryd.ntmps3
  go_wp2_with fail
  (with_reducible refine(kf).mono ?_);rintro e1 W1 ⟨rfl,rfl⟩
  clear kf
  go_wp2_with fail
  (with_reducible refine(kb).mono ?_);rintro e2 W2 ⟨v,D,rfl,hD,hown,hDok,hb2⟩
  clear kb;have hDl:D.length=n:=by rw[←HBN.out,←hD,List.length_map]
  obtain⟨ad,cd,rfl,_⟩:=own_cap hown;have hsq:=own_seq (en:=enBu) enBu_len hown hDl;have hsD: ∀x∈D,Small x.b:=fun x hx=>(HSM.out x.b (by rw[←hD];exact List.mem_map_of_mem hx)).1;have kw:=wrong_any ad n cd D W2 hDl (by omega) hsq hDok hsD;have kl:=fun V (hV:Below W2.heap.size W2 V)=>lay_any ad n cd D V (HW.out.be (hb2.trans (hV.mono hb2.size))) hDl (by omega) (hsq.below (Nat.le_refl _) hV) (fun x hx=>(hDok x hx).below (Nat.le_refl _) hV) hsD;rw[hD]at kw kl;have HSQ:=Lib.hid hsq;have HDOK:=Lib.hid hDok;have HD:=Lib.hid hD;have HDL:=Lib.hid hDl;clear hown hDl hsq hsD hDok hD;by_cases hce:checkE 0 BL=0
  ·rw[if_pos hce,hce,←lay_len hce]at kw
   obtain⟨P,hP⟩: ∃P,(layF BL).out=P:=⟨_,rfl⟩;obtain⟨N,hNe⟩: ∃N,P.length=N:=⟨_,rfl⟩;rw[hP,hNe]at kw;have HCE:=Lib.hid hce;have HP:=Lib.hid (And.intro hP hNe);by_cases hnr:N<1000
   ·have t1:decide ((N:Int)<1000)=true:=decide_eq_true (by omega)
    have kn:=fun V=>near_any (N:Int) V;rw[t1]at kn
    have hX9:(layB BL).size=188*N:=by
     rw[show layB BL=str (airL (layF BL).out)from if_pos hce,str_size,airL_len (lay_ok hce (fun b hb=>(HSM.out b hb).1)).ok,hP,hNe]
    have hair:=fun i p (h:P[i]? =some p)=>RdW.air_ext (P:=P) (by rw[←hP];exact(lay_ok hce (fun b hb=>(HSM.out b hb).1)).ok) h;rw[show str (airL P)=layB BL by rw[←hP];exact(if_pos hce).symm]at hair;have kr:=fun x (hx:x≠8191) V=>(read_lay x BL V hce (fun b hb=>(HSM.out b hb).1) hx).mono fun e w' h=>And.intro h.ex h.be;rw[hce]at kl;obtain⟨X,hX⟩: ∃X,layB BL=X:=⟨_,rfl⟩;rw[hX]at kl kr hair hX9;have x1:((X.size:Int)!=188*(N:Int))=false:=by rw[hX9];simp
    have HX9:=Lib.hid hX9;have HAIR:=Lib.hid hair;have HKR:=Lib.hid kr;clear hX hX9 hair kr hP hNe hce t1
    go_wp2_with fail
    (with_reducible refine(kw).mono ?_);rintro e3 W3 ⟨rfl,hb3⟩
    have kl1:=kl W3 hb3;clear kw kl
    go_wp2_with fail
    (with_reducible refine(kn _).mono ?_);rintro e4 W4 ⟨rfl,rfl⟩
    go_wp2_with fail
    (with_reducible refine(kl1).mono ?_);rintro e5 W5 ⟨rfl,hb5⟩
    have hb25:=hb3.trans (hb5.mono hb3.size);have HB5:=Lib.hid (And.intro (hb2.trans (hb25.mono hb2.size)) hb25);clear kn kl1 hb3 hb5 hb25 hb2
    go_wp2_with fail
    have HS9:=Lib.hid (show(BL.map fun b=>nS b.S).sum≤999 from by
     have h1:=nil_all HCE.out;rw[HP.out.1,HP.out.2]at h1;omega)
    go_loopw [8,9] (fun uv iv wr=> ∃i:Nat,i≤n∧iv= .int .i64 i∧uv= .int .i64 (usedU BL i:Int)∧Below W5.heap.size W5 wr) (fun _ iv _=>n-(intOf iv).toNat)
    case atStart=>exact⟨0,by omega,rfl,by rw[used_zero];rfl,Below.refl _ _⟩
    case round=>
     obtain⟨i,hi,rfl,rfl,hbr⟩:=hrel;obtain⟨wo,rfl⟩: ∃wo:World,wo=wr:=⟨_,rfl⟩;have hu9:usedU BL i≤999:=Nat.le_trans (used_le _ _) HS9.out;by_cases hin:i<n
     ·have t2:decide (i<n)=true:=decide_eq_true hin
      obtain⟨d,hd⟩: ∃d,D[i]? =some d:=⟨_,List.getElem?_eq_getElem (by rw[HDL.out];exact hin)⟩;obtain⟨b0,o0,rfl,hlt,hc⟩:=HSQ.out i d hd;have hbi:BL[i]? =some d.b:=by rw[←HD.out,List.getElem?_map,hd];rfl
      have c0:=hc 0 _ rfl;rw[off_eq,Nat.add_zero]at c0;have HBI:=Lib.hid hbi;have HC0:=Lib.hid c0;have hx9:d.b.pid≠8191:=pid_ok HCE.out _ (List.mem_of_getElem? hbi);obtain⟨x,hx⟩: ∃x,d.b.pid=x:=⟨_,rfl⟩;rw[hx]at hx9;have HXX:=Lib.hid (And.intro hx hx9);have j0:(0:Int)≤(i:Int):=Int.natCast_nonneg _;have j1:(i:Int)<(n:Int):=by omega
      have HBR:=Lib.hid (HB5.out.2.trans (hbr.mono HB5.out.2.size))
      have hci:=Lib.hid (show ∀V,Below wo.heap.size wo V→V.cell? ⟨b0,o0+i*3,none⟩=some (.int .i64 x)from fun V hV=>by
       rw[←hx];exact((HBR.out.trans (hV.mono HBR.out.size)).cell (p:=⟨b0,o0+i*3,none⟩) hlt).trans c0)
      clear hc c0 hd hbi hx hx9
      go_wp2_with fail
      go_loopw [10,11] (fun fv kv w2=> ∃k:Nat,k≤i∧kv= .int .i64 k∧fv= .bool (!LyM.seen x (BL.take k))∧Below wo.heap.size wo w2) (fun _ kv _=>i-(intOf kv).toNat)
      case atStart=>exact⟨0,by omega,rfl,rfl,Below.refl _ _⟩
      case round=>
       obtain⟨k,hk,rfl,rfl,hb2⟩:=hrel;by_cases hki:k<i
       ·have t3:decide (k<i)=true:=decide_eq_true hki
        obtain⟨y,hy⟩: ∃y,D[k]? =some y:=⟨_,List.getElem?_eq_getElem (by rw[HDL.out];omega)⟩;have hy2:BL[k]? =some y.b:=by rw[←HD.out,List.getElem?_map,hy];rfl
        obtain⟨B',O',he,hlt',hc'⟩:=HSQ.out k y hy;injection he with he
        injection he with e1 e2
        subst e1 e2;have y0:=hc' 0 _ rfl;rw[off_eq,Nat.add_zero]at y0;have m0:(0:Int)≤(k:Int):=Int.natCast_nonneg _;have m1:(k:Int)<(n:Int):=by omega
        have s1:=fun p=>hci.out _ (hb2.trans ((below_ext wr p).mono hb2.size));have s2: ∀p,(ext wr p).cell? ⟨b0,o0+k*3,none⟩=some (.int .i64 y.b.pid):=fun p=>((HBR.out.trans ((hb2.trans ((below_ext wr p).mono hb2.size)).mono HBR.out.size)).cell (p:=⟨b0,o0+k*3,none⟩) hlt).trans y0;have HST:=Lib.hid (seen_step hy2 x);obtain⟨py,hpy⟩: ∃py,y.b.pid=py:=⟨_,rfl⟩;rw[hpy]at s2 HST;clear hc' y0 hy hy2 hpy hlt'
        cases hs:LyM.seen x (BL.take k)with
        |true=>
         rw[hs]at HST;clear hs
         go_wp2_with fail
         refine Go.Proofs.YtibjkhepedfpiaaDoor.Q.region_ext (by kernel_rfl) (by kernel_rfl) ?_
         repeat (go_big_quiet_step (fail))
         refine wpQuiet_nil ?_;rintro w9 ⟨pq,rfl⟩;have hbq:=hb2.trans ((below_ext wr pq).mono hb2.size);clear s1 s2
         go_wp2_with fail
         go_roundw
         case rel=>exact⟨k+1,by omega,by go_num,by rw[HST.out];rfl,hbq⟩
         case measure=>simp[intOf];omega
        |false=>
         rw[hs]at HST;clear hs;by_cases hp:py=x
         ·subst hp
          go_wp2_with fail
          refine Go.Proofs.YtibjkhepedfpiaaDoor.Q.region_ext (by kernel_rfl) (by kernel_rfl) ?_
          repeat (go_big_quiet_step (fail))
          refine wpQuiet_nil ?_;rintro w9 ⟨pq,rfl⟩;have hbq:=hb2.trans ((below_ext wr pq).mono hb2.size);clear s1 s2
          go_wp2_with fail
          go_roundw
          case rel=>exact⟨k+1,by omega,by go_num,by rw[HST.out];simp,hbq⟩
          case measure=>simp[intOf];omega
         ·have q1:(py !=x)=true:=bne_iff_ne.2 hp
          have HPX:=Lib.hid hp;clear hp
          go_wp2_with fail
          refine Go.Proofs.YtibjkhepedfpiaaDoor.Q.region_ext (by kernel_rfl) (by kernel_rfl) ?_
          repeat (go_big_quiet_step (fail))
          refine wpQuiet_nil ?_;rintro w9 ⟨pq,rfl⟩;have hbq:=hb2.trans ((below_ext wr pq).mono hb2.size);clear s1 s2
          go_wp2_with fail
          go_roundw
          case rel=>exact⟨k+1,by omega,by go_num,by rw[HST.out,decide_eq_false HPX.out];rfl,hbq⟩
          case measure=>simp[intOf];omega
       ·obtain rfl:k=i:=by omega
        have t3:decide (k<k)=false:=by simp
        have HUS:=Lib.hid (used_step HBI.out);rw[HXX.out.1]at HUS
        cases hs:LyM.seen x (BL.take k)with
        |true=>
         rw[hs,if_pos rfl]at HUS;have hbz:=hbr.trans (hb2.mono hbr.size);clear hs
         go_wp2_with fail
         go_roundw
         case rel=>exact⟨k+1,by omega,by go_num,by rw[HUS.out,Nat.add_zero],hbz⟩
         case measure=>simp[intOf];omega
        |false=>
         rw[hs,if_neg (by decide)]at HUS;have HCN:=Lib.hid (cnt_none hs);have HB2:=Lib.hid hb2;clear hs hb2
         go_wp2_with fail
         obtain⟨wi,rfl⟩: ∃wi:World,wi=wr:=⟨_,rfl⟩;have HB6:=Lib.hid (hbr.trans (HB2.out.mono hbr.size))
         go_loopw [12,13,14] (fun wv nv kv w2=> ∃q:Nat,k≤q∧q≤n∧kv= .int .i64 q∧nv= .int .i64 (cntN x (BL.take q):Int)∧w2.ownsRow W5.heap.size 9 1 wv (wantL x (BL.take q)).length (flat enS (wantL x (BL.take q)))∧Below W5.heap.size W5 w2) (fun _ _ kv _=>n-(intOf kv).toNat)
         case atStart=>exact⟨k,Nat.le_refl _,hi,rfl,by rw[HCN.out.1];rfl,by rw[HCN.out.2];exact World.ownsRow_nil _ _ _ _,HB6.out⟩
         case round=>
          obtain⟨q,hkq,hq,rfl,rfl,hown,hb3⟩:=hrel;have hc9:cntN x (BL.take q)≤999:=Nat.le_trans (cnt_le _ _ _) HS9.out
          have hw9:(wantL x (BL.take q)).length≤64:=by
           have h1:=want_len x (BL.take q) (fun b hb=>(HSM.out b (List.mem_of_mem_take hb)).2);rw[List.length_take,HBN.out]at h1;omega
          by_cases hqn:q<n
          ·have t4:decide (q<n)=true:=decide_eq_true hqn
           obtain⟨y,hy⟩: ∃y,D[q]? =some y:=⟨_,List.getElem?_eq_getElem (by rw[HDL.out];omega)⟩;have hy2:BL[q]? =some y.b:=by rw[←HD.out,List.getElem?_map,hy];rfl
           obtain⟨B',O',he,hlt',hc'⟩:=HSQ.out q y hy;injection he with he
           injection he with e1 e2
           subst e1 e2;have y0:=hc' 0 _ rfl;have y2:=hc' 2 _ rfl;rw[off_eq]at y0 y2;rw[Nat.add_zero]at y0;have m0:(0:Int)≤(q:Int):=Int.natCast_nonneg _;have m1:(q:Int)<(n:Int):=by omega
           have hx0:=fun p=>HB5.out.2.trans ((hb3.trans ((below_ext wr p).mono hb3.size)).mono HB5.out.2.size)
           have s1: ∀p,(ext wr p).cell? ⟨b0,o0+k*3,none⟩=some (.int .i64 x):=fun p=>by
            rw[←HXX.out.1];exact((hx0 p).cell (p:=⟨b0,o0+k*3,none⟩) hlt).trans HC0.out
           have s2: ∀p,(ext wr p).cell? ⟨b0,o0+q*3,none⟩=some (.int .i64 y.b.pid):=fun p=>((hx0 p).cell (p:=⟨b0,o0+q*3,none⟩) hlt).trans y0;have s3: ∀p,(ext wr p).cell? ⟨b0,o0+q*3+2,none⟩=some (.slice y.a y.b.S.length y.c):=fun p=>((hx0 p).cell (p:=⟨b0,o0+q*3+2,none⟩) hlt).trans y2;have hyk:=HDOK.out y (List.mem_of_getElem? hy);have hsy:=fun p=>hyk.s.below (Nat.le_refl _) (hx0 p);have hmy:manyE y.b.S=0:=(firsts_ok BL 0 HCE.out y.b (List.mem_of_getElem? hy2)).2.2;have h8y:=(HSM.out y.b (List.mem_of_getElem? hy2));have HST:=Lib.hid (And.intro (cnt_step hy2 x) (want_step hy2 x));obtain⟨⟨py,ay,Sy⟩,sa,sc⟩:=y;dsimp only at s2 s3 hsy hmy h8y HST;obtain⟨ns,hns⟩: ∃ns,Sy.length=ns:=⟨_,rfl⟩;rw[hns]at s3 h8y;have hns8:=h8y.2;have HSY:=Lib.hid hsy;have HYK:=Lib.hid hyk.s;dsimp only at HYK;have CW2:=Lib.hid y2;dsimp only at CW2;rw[hns]at CW2;have HMY:=Lib.hid (And.intro hmy (And.intro hns h8y.1.2));dsimp only at HMY;clear hc' y0 y2 hy hy2 hlt' hx0 hyk hsy hmy hns h8y;by_cases hp:py=x
           ·rw[if_pos hp,if_pos hp]at HST
            subst hp
            go_wp2_with fail
            refine Go.Proofs.YtibjkhepedfpiaaDoor.Q.region_ext (by kernel_rfl) (by kernel_rfl) ?_
            repeat (go_big_quiet_step (fail))
            refine wpQuiet_nil ?_;rintro w9 ⟨pq,rfl⟩;have hbq:=hb3.trans ((below_ext wr pq).mono hb3.size);have hown2:=own_below hown (below_ext wr pq);have z3:=s3 pq;have HQ9:=Lib.hid (HSY.out pq);obtain⟨wq,hwq⟩: ∃wq,ext wr pq=wq:=⟨_,rfl⟩;rw[hwq]at hbq hown2 z3 HQ9 ⊢;clear s1 s2 s3 hwq hown
            have hpos:0<ns:=by
             have:=(many_first HMY.out.1).1;rw[HMY.out.2.1]at this;omega
            obtain⟨z0,hz0⟩: ∃z,Sy[0]? =some z:=⟨_,List.getElem?_eq_getElem (by rw[HMY.out.2.1];exact hpos)⟩;obtain⟨bs,os,rfl,hlb,_⟩:=HQ9.out 0 z0 hz0;have hfl:(flat enS Sy).length=ns*1:=by rw[flat_length (sz:=1) (fun _=>rfl),HMY.out.2.1]
            have HFL:=Lib.hid hfl;have hz5:=hbq.size;clear hz0 hlb hfl
            go_wp2_with (at_builtin;refine wpList_app rfl _ _ rfl elemS rfl hown2 rfl HFL.out (seq_news (en:=enS) (sz:=1) (fun _=>rfl) HQ9.out) (by intro u hu;simp only[flat,enS,List.mem_flatMap,List.mem_singleton]at hu;obtain⟨_,_,rfl⟩:=hu;rfl) (by omega) (by unfold maxLen;omega) hz5 ?_)
            intro v9 w8 hown9 hb8;have hb9:=hbq.trans hb8;have hb29:=HB5.out.2.trans (hb9.mono HB5.out.2.size);have z8:=(hb29.cell (p:=⟨b0,o0+q*3+2,none⟩) hlt).trans CW2.out;have km:=lmany_any (some ⟨bs,os,none⟩) ns sc Sy w8 HMY.out.2.1 (by omega) (HYK.out.below (Nat.le_refl _) hb29) (by have h1:=sum_B HMY.out.2.2;rw[HMY.out.2.1]at h1;omega);have hmN:manyN Sy=nS Sy:=by unfold manyN nS;rw[if_pos HMY.out.1]
            rw[HMY.out.1,hmN]at km
            have hnS:nS Sy≤999:=by
             have h1:=HST.out.1;have h2:=cnt_le py BL (q+1);have h3:=HS9.out;omega
            have hown8:w8.ownsRow W5.heap.size 9 1 v9 (wantL py (BL.take (q+1))).length (flat enS (wantL py (BL.take (q+1)))):=by
             rw[HST.out.2,List.length_append,flat_app,HMY.out.2.1];exact hown9
            have HCT:=Lib.hid HST.out.1;clear hown2 hown9 hb8 hbq z3 HQ9 HST hmN HFL hz5
            go_wp2_with fail
            (with_reducible refine(km).mono ?_);rintro e6 W6 ⟨rfl,hb6⟩
            have hb7:=hb9.trans (hb6.mono hb9.size);have hown7:=own_below hown8 hb6;clear km hown8 z8
            go_wp2_with fail
            go_roundw
            case rel=>
             repeat apply Exists.intro
             refine⟨?_,rfl⟩;exact⟨q+1,by omega,by omega,by go_num,by rw[HCT.out];go_num,hown7,hb7⟩
            case measure=>simp[intOf];omega
           ·have q1:(py==x)=false:=beq_eq_false_iff_ne.2 hp
            rw[if_neg hp,if_neg hp,Nat.add_zero,List.append_nil]at HST;clear hp
            go_wp2_with fail
            refine Go.Proofs.YtibjkhepedfpiaaDoor.Q.region_ext (by kernel_rfl) (by kernel_rfl) ?_
            repeat (go_big_quiet_step (fail))
            refine wpQuiet_nil ?_;rintro w9 ⟨pq,rfl⟩;have hbq:=hb3.trans ((below_ext wr pq).mono hb3.size);have hown2:=own_below hown (below_ext wr pq);clear s1 s2 s3 hown
            go_wp2_with fail
            go_roundw
            case rel=>
             repeat apply Exists.intro
             refine⟨?_,rfl⟩;exact⟨q+1,by omega,by omega,by go_num,by rw[HST.out.1];rfl,by rw[HST.out.2];simpa using hown2,hbq⟩
            case measure=>simp[intOf];omega
          ·obtain rfl:q=n:=by omega
           have t4:decide (q<q)=false:=by simp
           have hta:BL.take q=BL:=List.take_of_length_le (by rw[HBN.out];exact Nat.le_refl _);rw[hta]at hown hc9 hw9 ⊢;clear hta
           have hz3:wr.cell? ⟨b0,o0+k*3,none⟩=some (.int .i64 x):=by
            rw[←HXX.out.1];exact((HB5.out.2.trans (hb3.mono HB5.out.2.size)).cell (p:=⟨b0,o0+k*3,none⟩) hlt).trans HC0.out
           obtain⟨aw,cw,rfl⟩:=own_form hown;have kr:=HKR.out x HXX.out.2 wr;have hg:=got_is HCE.out x HXX.out.2;obtain⟨G,hG⟩: ∃G,got x BL=G:=⟨_,rfl⟩;rw[hG]at kr hg;have HGG:=Lib.hid (show G.T=wantL x BL∧G.n=cntN x BL from⟨hg.1,hg.2.1⟩);rw[HGG.out.1,HGG.out.2]at kr;have HSW:=Lib.hid (own_seq (en:=enS) (fun _=>rfl) hown rfl);obtain⟨WL,hWL⟩: ∃WL,wantL x BL=WL:=⟨_,rfl⟩;obtain⟨CN,hCN⟩: ∃CN,cntN x BL=CN:=⟨_,rfl⟩;rw[hWL,hCN]at kr;rw[hWL]at hw9 HSW ⊢;rw[hCN]at hc9 HUS ⊢;clear hg hG hown hWL hCN HGG
           go_wp2_with fail
           (with_reducible refine(kr).mono ?_);rintro e6 W6 ⟨⟨x0,x1,x2,rfl,p0,p1,p2⟩,hb6⟩
           obtain⟨y0,z0,rfl⟩:=own_form p0;obtain⟨y1,z1,rfl⟩:=own_form p1;obtain⟨y2,z2,rfl⟩:=own_form p2;have hb7:=(hb3.trans (hb6.mono hb3.size));have hb67:=(Below.refl W6.heap.size W6).alloc (Nat.le_refl _) (.cells #[.slice y0 WL.length z0,.slice y1 G.sl.length z1,.slice y2 G.en.length z2,.int .i64 (CN:Int),.bool true] 39);have hk7:=Blk.new W6 39 #[.slice y0 WL.length z0,.slice y1 G.sl.length z1,.slice y2 G.en.length z2,.int .i64 (CN:Int),.bool true];have hT7:=(own_seq (en:=enS) (fun _=>rfl) p0 rfl).below (Nat.le_refl _) hb67;have hW7:=(HSW.out.below (Nat.le_refl _) hb6).below (Nat.le_refl _) hb67;have hb77:=hb7.trans (hb67.mono hb7.size);have ks:=same_any y0 aw WL.length z0 WL.length cw WL WL _ rfl rfl (by omega) hT7 hW7;rw[decide_eq_true rfl]at ks;have f0:=Blk.cell (hk7) 0 (v:= .slice y0 WL.length z0) rfl;have f1:=Blk.cell (hk7) 1 (v:= .slice y1 G.sl.length z1) rfl;have f2:=Blk.cell (hk7) 2 (v:= .slice y2 G.en.length z2) rfl;have f3:=Blk.cell (hk7) 3 (v:= .int .i64 (CN:Int)) rfl;have f4:=Blk.cell (hk7) 4 (v:= .bool true) rfl;clear kr hz3 p0 p1 p2 hb6 hb67 hT7 hW7 hb7 hk7
           go_wp2_with fail
           (with_reducible refine(ks).mono ?_);rintro e8 W8 ⟨rfl,hb8⟩
           have hb9:=hb77.trans (hb8.mono hb77.size);clear ks f0 f1 f2 f3 f4 hb77 hb8
           go_wp2_with fail
           go_roundw
           case rel=>exact⟨k+1,by omega,by go_num,by rw[HUS.out];go_num,hb9⟩
           case measure=>simp[intOf];omega
     ·obtain rfl:i=n:=by omega
      have t2:decide (i<i)=false:=by simp
      have hU0:usedU BL i=(BL.map fun b=>nS b.S).sum:=by rw[←HBN.out];exact used_all BL
      have hmk: ∀V:World,(Instr.makeSlice 42 (.int .i64 188) (.int .i64 188)).run Tryd.prog V= .ok (.slice (some ⟨V.heap.size,0,none⟩) 188 188) (V.alloc (.cells (rowB [] 188) 5)):=fun V=>mk_bytes 188 (by decide) V;obtain⟨U,hU⟩: ∃U,usedU BL i=U:=⟨_,rfl⟩;rw[hU]at hU0 hu9 ⊢;have HU:=Lib.hid hU0;clear hU hU0
      go_wp2_with fail
      refine wp_gen (fun W=>Blk W wo.heap.size 5 (rowB [] 188)∧Below W5.heap.size W5 W) ⟨Blk.new _ _ _,hbr.alloc hbr.size _⟩ ?_;rintro W0 ⟨h0,h1⟩;have hg5:=hbr.size;obtain⟨g,hg⟩: ∃g,wo.heap.size=g:=⟨_,rfl⟩;rw[hg]at h0 hg5 ⊢;clear hg hmk hbr
      go_loopw [19] (fun iv w5=> ∃q:Nat,q≤188∧iv= .int .i64 q∧Hid (Blk w5 g 5 (rowB (List.replicate q 255) (188-q))∧Below W5.heap.size W5 w5)) (fun iv _=>188-(intOf iv).toNat)
      case atStart=>exact⟨0,by omega,rfl,Lib.hid ⟨h0,h1⟩⟩
      case round=>
       obtain⟨q,hq,rfl,hI⟩:=hrel;obtain⟨hR,hE⟩:=hI.out;clear h0 h1;by_cases hqk:q<188
       ·have t3:decide (q<188)=true:=decide_eq_true hqk
        have t3':decide ((q:Int)<188)=true:=decide_eq_true (by omega);obtain⟨m,hmk⟩: ∃m,188-q=m+1:=⟨188-q-1,by omega⟩;rw[hmk]at hR;have r1:=Blk.cell hR q (v:= .int .u8 0) (by have:=rowB_at (List.replicate q 255) m;rw[List.length_replicate]at this;exact this);have f1:=Blk.frozen hR q;have h1:=hR.set_ q (.int .u8 255);have h2:=rowB_set (List.replicate q 255) m 255;rw[List.length_replicate,←List.replicate_succ']at h2;rw[show BiW.u8v 255= .int .u8 255 from rfl]at h2;rw[h2,show m=188-(q+1) by omega]at h1;have hE2:=hE.setCell (p:=⟨g,q,none⟩) hg5 (.int .u8 255);have HX:=Lib.hid (And.intro h1 hE2);clear h1 h2 hE2 hE hI hmk
        go_wp2_with fail
        go_roundw
        case rel=>exact⟨q+1,by omega,by go_num,HX⟩
        case measure=>simp[intOf];omega
       ·obtain rfl:q=188:=by omega
        rw[Nat.sub_self]at hR;obtain⟨RR,hRR⟩: ∃R,List.replicate 184 (255:UInt8)=R:=⟨_,rfl⟩;have e188:List.replicate 188 (255:UInt8)=255::255::255::255::RR:=by rw[←hRR];rfl
        rw[e188]at hR;have HRR:=Lib.hid hRR;have a0:=Blk.cell hR 0 (v:= .int .u8 255) rfl;have g0:=Blk.frozen hR 0;have hR1:=hR.set_ 0 (.int .u8 71);have a1:=Blk.cell hR1 1 (v:= .int .u8 255) (by simp[rowB,BiW.u8s];rfl);have g1:=Blk.frozen hR1 1;have hR2:=hR1.set_ 1 (.int .u8 31);have a3:=Blk.cell hR2 3 (v:= .int .u8 255) (by simp[rowB,BiW.u8s];rfl);have g3:=Blk.frozen hR2 3;have hR3:=hR2.set_ 3 (.int .u8 16);rw[nil_set RR]at hR3;have hE3:=((hE.setCell (p:=⟨g,0,none⟩) hg5 (.int .u8 71)).setCell (p:=⟨g,1,none⟩) hg5 (.int .u8 31)).setCell (p:=⟨g,3,none⟩) hg5 (.int .u8 16);have HX:=Lib.hid (And.intro hR3 hE3);clear hR hR1 hR2 hR3 hE3 hE hI hRR e188 hqk
        go_wp2_with fail
        refine wp_gen (fun W=>Blk W g 5 (rowB (71::31::255::16::RR) 0)∧Below W5.heap.size W5 W) HX.out ?_;rintro W6 ⟨h0,h1⟩;clear a0 a1 a3 g0 g1 g3 HX;have hl188:(71::31::255::16::RR).length=188:=by rw[←HRR.out];rfl
        have HLB:=Lib.hid (show str (71::31::255::16::RR)=str (pkBy nilPk)from by rw[nil_list,HRR.out]);have HL8:=Lib.hid hl188;obtain⟨NL,hNL⟩: ∃NL,(71::31::255::16::RR:List UInt8)=NL:=⟨_,rfl⟩;rw[hNL]at h0 HLB HL8;clear hl188 hNL HRR
        go_loopw [20,21] (fun nv iv w5=> ∃q:Nat,q≤N∧iv= .int .i64 q∧nv= .int .i64 (nilN P q:Int)∧Hid (Blk w5 g 5 (rowB NL 0)∧Below W5.heap.size W5 w5)) (fun _ iv _=>N-(intOf iv).toNat)
        case atStart=>exact⟨0,by omega,rfl,rfl,Lib.hid ⟨h0,h1⟩⟩
        case round=>
         clear h0 h1;obtain⟨q,hq,rfl,rfl,hI⟩:=hrel
         have hnn:nilN P q≤q:=by
          unfold nilN;refine Nat.le_trans (List.length_filter_le _ _) ?_;rw[List.length_take];omega
         by_cases hqn:q<N
         ·have t4:decide (q<N)=true:=decide_eq_true hqn
          obtain⟨p,hp⟩: ∃p,P[q]? =some p:=⟨_,List.getElem?_eq_getElem (by rw[HP.out.2];exact hqn)⟩;have hex:=HAIR.out q p hp
          have hsl: ∀V:World,(Instr.slice 9 (.string X) (some (.int .i64 (188*(q:Int)))) (some (.int .i64 (188*(q:Int)+188))) none).run Tryd.prog V= .ok (.string (str (pkBy p))) V:=fun V=>by
           have:=HX9.out;rw[run_slice_string V 9 X .i64 .i64 (188*(q:Int)) (188*(q:Int)+188) Tryd.underlying9 (by omega) (by omega) (by omega),show(188*(q:Int)).toNat=188*q by omega,show(188*(q:Int)+188).toNat=188*q+188 by omega,hex]
          have kcv:=fun pX=>conv_row (blk_ext hI.out.1 pX) HL8.out 188;have HNS:=Lib.hid (nil_step hp);have hiff:=nil_iff HCE.out (fun b hb=>(HSM.out b hb).1) (p:=p) (by rw[HP.out.1];exact List.mem_of_getElem? hp);rw[HLB.out]at kcv;obtain⟨XS,hXS⟩: ∃XS,str (pkBy p)=XS:=⟨_,rfl⟩;obtain⟨XN,hXN⟩: ∃XN,str (pkBy nilPk)=XN:=⟨_,rfl⟩;rw[hXN]at kcv;rw[hXS,hXN]at hiff;rw[hXS]at hsl;clear hex hp hXS hXN;by_cases hp8:p.pid=8191
          ·obtain rfl:XS=XN:=hiff.2 hp8
           rw[if_pos hp8]at HNS;clear hiff hp8
           go_wp2_with fail
           refine Go.Proofs.YtibjkhepedfpiaaDoor.Q.region_ext (by kernel_rfl) (by kernel_rfl) ?_
           repeat (go_big_quiet_step (fail))
           refine wpQuiet_nil ?_;rintro w9 ⟨pq,rfl⟩;have HIQ:=Lib.hid (And.intro (blk_ext hI.out.1 pq) (hI.out.2.trans ((below_ext _ pq).mono hI.out.2.size)));clear kcv hI
           go_wp2_with fail
           go_roundw
           case rel=>exact⟨q+1,by omega,by go_num,by rw[HNS.out];go_num,HIQ⟩
           case measure=>simp[intOf];omega
          ·have hne:(XS.toList==XN.toList)=false:=by
            refine beq_eq_false_iff_ne.2 (fun e=>hp8 (hiff.1 ?_));exact bl_inj (by unfold bl;rw[←ByteArray.toList_eq,←ByteArray.toList_eq,e])
           rw[if_neg hp8,Nat.add_zero]at HNS;clear hiff hp8
           go_wp2_with fail
           refine Go.Proofs.YtibjkhepedfpiaaDoor.Q.region_ext (by kernel_rfl) (by kernel_rfl) ?_
           repeat (go_big_quiet_step (fail))
           refine wpQuiet_nil ?_;rintro w9 ⟨pq,rfl⟩;have HIQ:=Lib.hid (And.intro (blk_ext hI.out.1 pq) (hI.out.2.trans ((below_ext _ pq).mono hI.out.2.size)));clear kcv hI
           go_wp2_with fail
           go_roundw
           case rel=>exact⟨q+1,by omega,by go_num,by rw[HNS.out];rfl,HIQ⟩
           case measure=>simp[intOf];omega
         ·obtain rfl:q=N:=by omega
          have t4:decide (q<q)=false:=by simp
          have hall:=nil_all HCE.out;rw[HP.out.1,HP.out.2,←HU.out]at hall
          have q7:((nilN P q:Int)==(q:Int)-(U:Int))=true:=by
           rw[beq_iff_eq];omega
          have hbz:=HB5.out.1.trans (hI.out.2.mono HB5.out.1.size);clear hall
          go_wp2_with fail
          (with_reducible refine(awake_any _).mono ?_);rintro e8 W8 ⟨rfl,hb8⟩
          go_wp2_with fail
          go_ret;exact⟨rfl,(hbz).trans (hb8.mono (hbz).size)⟩
   ·have t1:decide ((N:Int)<1000)=false:=decide_eq_false (by omega)
    have kn:=fun V=>near_any (N:Int) V;rw[t1]at kn;clear hP hNe hce t1 kl
    go_wp2_with fail
    (with_reducible refine(kw).mono ?_);rintro e3 W3 ⟨rfl,hb3⟩
    clear kw
    go_wp2_with fail
    (with_reducible refine(kn _).mono ?_);rintro e4 W4 ⟨rfl,rfl⟩
    go_wp2_with fail
    (with_reducible refine(awake_any _).mono ?_);rintro e8 W8 ⟨rfl,hb8⟩
    go_wp2_with fail
    go_ret;exact⟨rfl,(hb2.trans (hb3.mono hb2.size)).trans (hb8.mono (hb2.trans (hb3.mono hb2.size)).size)⟩
  ·rw[if_neg hce]at kw
   have hl0:layB BL=nob:=if_neg hce;rw[hl0]at kl;obtain⟨CE,hCE⟩: ∃CE,checkE 0 BL=CE:=⟨_,rfl⟩;rw[hCE]at kw kl hce;have x0:(CE==0)=false:=beq_eq_false_iff_ne.2 hce;clear hCE hce hl0
   go_wp2_with fail
   (with_reducible refine(kw).mono ?_);rintro e3 W3 ⟨rfl,hb3⟩
   have kl1:=kl W3 hb3;clear kw kl
   go_wp2_with fail
   (with_reducible refine(kl1).mono ?_);rintro e5 W5 ⟨rfl,hb5⟩
   have hb25:=hb3.trans (hb5.mono hb3.size)
   go_wp2_with fail
   (with_reducible refine(awake_any _).mono ?_);rintro e8 W8 ⟨rfl,hb8⟩
   go_wp2_with fail
   go_ret;exact⟨rfl,(hb2.trans (hb25.mono hb2.size)).trans (hb8.mono (hb2.trans (hb25.mono hb2.size)).size)⟩
end Go.Proofs.YtibjkhepedfpiaaDoor.LyL
