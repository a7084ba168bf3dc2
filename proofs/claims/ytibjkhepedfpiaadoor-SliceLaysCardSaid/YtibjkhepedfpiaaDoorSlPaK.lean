import Derived.Test.YtibjkhepedfpiaaDoorSlPaN
namespace Go.Proofs.YtibjkhepedfpiaaDoor.PaK
open Go Go.RowKit Q Mem Rg Ap St CrB SeEq PaR PaA PaT PaN PaP
def firstE:List ByteArray→Int
 |[]=>0
 |s::t=>if paE s=0 then firstE t else paE s
theorem first_take {L:List ByteArray} {k:Nat} {s:ByteArray} (hk:L[k]? =some s) (hf:firstE (L.take k)=0):(paE s=0→firstE (L.take (k+1))=0)∧(paE s≠0→firstE L=paE s):=by
 induction L generalizing k with
 |nil=>simp at hk
 |cons x t ih=>
  cases k with
  |zero=>
   simp at hk;subst hk;exact⟨fun h=>by simp[firstE,h],fun h=>by simp[firstE,h]⟩
  |succ k=>
   simp at hk;simp only[List.take_succ_cons,firstE]at hf ⊢
   split at hf
   ·rename_i hx
    rw[if_pos hx,if_pos hx];exact ih hk hf
   ·rename_i hx
    exact absurd hf hx
theorem first_ok {L:List ByteArray} (h:firstE L=0): ∀s∈L,paE s=0:=by
 induction L with
 |nil=>intro s hs;cases hs
 |cons x t ih=>
  intro s hs;rw[firstE]at h
  split at h
  ·rename_i hx
   rcases List.mem_cons.1 hs with rfl|hs
   ·exact hx
   ·exact ih h s hs
  ·rename_i hx;exact absurd h hx
theorem own_keep {W W':World} {B n sz g:Nat} {e:TypeId} {v:Value} {xs:List Value} (h:W.ownsRow B e sz v n xs) (hg:W.grownBy W' (some g)) (hB:g<B):W'.ownsRow B e sz v n xs:=h.kept hg (by
 cases ho:v.ownBlock with
 |none=>exact Or.inl rfl
 |some r=>exact Or.inr (fun e=>by injection e with e;have:=(h.lt r ho).1;omega))
theorem sum_le {L:List ByteArray} (h: ∀s∈L,paE s=0):(L.map ByteArray.size).sum≤4098*L.length:=by
 induction L with
 |nil=>simp
 |cons x t ih=>
  have h1:=(paE_ok (h x (by simp))).2.1;have h2:=needN_le x;have h3:=ih (fun s hs=>h s (by simp[hs]));simp;omega
theorem size_pos {L:List ByteArray} (h: ∀s∈L,paE s=0): ∀s∈L,0<s.size:=fun s hs=>by
 have:=(paE_ok (h s hs)).2.2.2;omega
def lenV (v:Value):Nat:=match v with| .slice _ n _=>n|_=>0
def stI (L:List ByteArray):Nat→ByteArray×List ByteArray
 |0=>(nob,L)
 |k+1=>stepS (stI L k).1 (stI L k).2
theorem stI_dr (L:List ByteArray): ∀k,((stI L k).1.size,(stI L k).2.map ByteArray.size)=dr (pos (L.map ByteArray.size) k) 0 (L.map ByteArray.size)
 |0=>by
  cases L with
  |nil=>rfl
  |cons x t=>rw[stI,pos,List.map_cons,dr,if_pos (Nat.le_refl _)];rfl
 |k+1=>by
  have ih:=stI_dr L k;have h1:(stI L k).1.size=(dr (pos (L.map ByteArray.size) k) 0 (L.map ByteArray.size)).1:=congrArg Prod.fst ih;have h2:(stI L k).2.map ByteArray.size=(dr (pos (L.map ByteArray.size) k) 0 (L.map ByteArray.size)).2:=congrArg Prod.snd ih;rw[stI,stepS,drS_size,h1,h2,dr_add,pos,fp]
theorem stI_end {L:List ByteArray} (h: ∀s∈L,0<s.size) (k:Nat):((stI L k).1.size=0∧(stI L k).2.length=0)↔(L.map ByteArray.size).sum≤pos (L.map ByteArray.size) k:=by
 have ih:=stI_dr L k;have h1:(stI L k).1.size=(dr (pos (L.map ByteArray.size) k) 0 (L.map ByteArray.size)).1:=congrArg Prod.fst ih;have h2:(stI L k).2.map ByteArray.size=(dr (pos (L.map ByteArray.size) k) 0 (L.map ByteArray.size)).2:=congrArg Prod.snd ih;have h3:=dr_end (L.map ByteArray.size) (pos (L.map ByteArray.size) k) 0 (by intro x hx;obtain⟨s,hs,rfl⟩:=List.mem_map.1 hx;exact h s hs);rw[←h1,←h2,Nat.zero_add]at h3;rw[←h3];simp
structure Pkt where
 pid:Int
 start:Bool
 count:Int
 body:ByteArray
def enPk (p:Pkt):List Value:=[.int .i64 p.pid,.bool p.start,.int .i64 p.count,.bool false,.string p.body]
theorem enPk_len (p:Pkt):(enPk p).length=5:=rfl
def pkI (pid:Int) (count:Nat) (L:List ByteArray) (k:Nat):Pkt:=⟨pid,startB (stI L k).1 (stI L k).2,((count+k)%16:Nat),str (bodyL (stI L k).1 (stI L k).2)⟩
def pks (pid:Int) (count:Nat) (L:List ByteArray) (K:Nat):List Pkt:=(List.range K).map (pkI pid count L)
theorem elemPk:Elem Tryd.prog 69 92 5 48:=elem_of Tryd.underlying69 (z:= .agg #[.int .i64 0,.bool false,.int .i64 0,.bool false,.string ByteArray.empty]) (by kernel_rfl) rfl (by decide)
theorem pks_snoc (pid:Int) (count:Nat) (L:List ByteArray) (q:Nat):flat enPk (pks pid count L (q+1))=flat enPk (pks pid count L q)++enPk (pkI pid count L q):=by
 unfold pks flat;rw[List.range_succ,List.map_append,List.flatMap_append];simp
set_option maxRecDepth 100000
set_option maxHeartbeats 3200000 in
theorem pack_any (pid:Int) (count:Nat) (a:Option Addr) (n c:Nat) (L:List ByteArray) (w:World) (hp0:0≤pid) (hp1:pid<8191) (hc1:count<16) (hn:L.length=n) (hl:n≤100000) (hcap:n≤c) (hL:Seq enS 1 w a L) (hs: ∀s∈L,s.size≤1099511627776):
 Calls Tryd.prog 23 #[.int .i64 pid,.int .i64 (count:Int),.slice a n c] w fun e w'=>(if firstE L=0 then ∃ao cap,e= .returned (.tuple #[.slice ao (nP (L.map ByteArray.size)) cap,.int .i64 ((count+nP (L.map ByteArray.size))%16:Nat),.int .i64 0])∧Seq enPk 5 w' ao (pks pid count L (nP (L.map ByteArray.size)))
  else e= .returned (.tuple #[.slice none 0 0,.int .i64 0,.int .i64 (firstE L)]))∧Below w.heap.size w w':=by
 obtain⟨R,hR⟩: ∃R:Ending→World→Prop,R=(fun e w'=>(if firstE L=0 then ∃ao cap,e= .returned (.tuple #[.slice ao (nP (L.map ByteArray.size)) cap,.int .i64 ((count+nP (L.map ByteArray.size))%16:Nat),.int .i64 0])∧Seq enPk 5 w' ao (pks pid count L (nP (L.map ByteArray.size)))
  else e= .returned (.tuple #[.slice none 0 0,.int .i64 0,.int .i64 (firstE L)]))∧Below w.heap.size w w'):=⟨_,rfl⟩
 rw[←hR];have HR:=Lib.hid hR;have HL:=Lib.hid hL;have HS:=Lib.hid hs;have HN:=Lib.hid hn;have t1:decide (pid<0)=false:=decide_eq_false (by omega);have t2:decide (8191≤pid)=false:=decide_eq_false (by omega);have t3:decide ((count:Int)<0)=false:=decide_eq_false (by omega);have t4:decide (16≤(count:Int))=false:=decide_eq_false (by omega);clear hR hL hs hn
 go_enter Tryd.func23,Tryd.ntmps23
 go_wp2_with fail
 go_loopw [32] (fun i wr=> ∃k:Nat,k≤n∧i= .int .i64 k∧firstE (L.take k)=0∧Below w.heap.size w wr) (fun i _=>n-(intOf i).toNat)
 case atStart=>exact⟨0,by omega,rfl,rfl,Below.refl _ _⟩
 case round=>
  obtain⟨k,hk,rfl,hf,hb⟩:=hrel;by_cases hkn:k<n
  ·have t0:decide (k<n)=true:=decide_eq_true hkn
   obtain⟨s,hs⟩: ∃s,L[k]? =some s:=⟨_,List.getElem?_eq_getElem (by rw[HN.out];exact hkn)⟩;obtain⟨b0,o0,rfl,hlt,hc⟩:=(HL.out.below (Nat.le_refl _) hb) k s hs;have c0:wr.cell? ⟨b0,o0+k,none⟩=some (.string s):=hc 0 _ rfl;have k0:(0:Int)≤(k:Int):=Int.natCast_nonneg _;have k1:(k:Int)<(n:Int):=by omega
   have kc:=fun V=>check_any s V (HS.out s (List.mem_of_getElem? hs));have HF:=Lib.hid (first_take hs hf);obtain⟨E,hE⟩: ∃E,paE s=E:=⟨_,rfl⟩;rw[hE]at kc HF;clear hs hf hc hE;by_cases hE0:E=0
   ·subst hE0
    go_wp2_with fail
    (with_reducible refine(kc _).mono ?_);rintro e W1 ⟨rfl,hb1⟩
    have hb2:=hb.trans (hb1.mono hb.size)
    go_wp2_with fail
    go_roundw
    case rel=>exact⟨k+1,by omega,by go_num,by simpa using HF.out.1,hb2⟩
    case measure=>simp[intOf];omega
   ·have t5:(E==0)=false:=by simpa using hE0
    go_wp2_with fail
    (with_reducible refine(kc _).mono ?_);rintro e W1 ⟨rfl,hb1⟩
    have hb2:=hb.trans (hb1.mono hb.size)
    go_wp2_with fail
    go_ret3
    rw[HR.out];have h1:=HF.out.2 hE0;refine⟨?_,hb2⟩;rw[h1,if_neg hE0];rfl
  ·obtain rfl:k=n:=by omega
   have t0:decide (k<k)=false:=by simp
   have HF:=Lib.hid (show firstE L=0 from by rw[←HN.out,List.take_length]at hf;exact hf);have hS0:Stm w (wr.alloc (.cells #[.string nob,.slice a k c] 95)) wr.heap.size nob L a c:=⟨by rw[HN.out];exact Blk.new _ _ _,HL.out,by rw[HN.out];exact hcap⟩;have HSM:=Lib.hid (sum_le (first_ok HF.out));have HPOS:=Lib.hid (size_pos (first_ok HF.out));have hb0:=hb.alloc hb.size (.cells #[.string nob,.slice a k c] 95);have hbs:=hb.size;clear hf hb
   go_wp2_with fail
   refine wp_gen (fun W=>Stm w W wr.heap.size nob L a c∧Below w.heap.size w W∧W.heap.size=wr.heap.size+1) ⟨hS0,hb0,by simp⟩ ?_;rintro W0 ⟨hS0,hb0,hz0⟩;obtain⟨g,hg⟩: ∃g,wr.heap.size=g:=⟨_,rfl⟩;rw[hg]at hS0 hbs hz0 ⊢;obtain⟨S,hS⟩: ∃S,(L.map ByteArray.size).sum=S:=⟨_,rfl⟩;have HSU:=Lib.hid hS
   go_loopw [1,13] (fun cv out W=> ∃q:Nat,cv= .int .i64 (((count+q)%16:Nat):Int)∧(∀j,j<q→pos (L.map ByteArray.size) j<S)∧W.ownsRow (g+1) 92 5 out q (flat enPk (pks pid count L q))∧(∃a' c',Stm w W g (stI L q).1 (stI L q).2 a' c')∧Below w.heap.size w W∧g+1≤W.heap.size) (fun _ out _=>S+1-lenV out)
   case atStart=>exact⟨0,by rw[Nat.add_zero,Nat.mod_eq_of_lt hc1],fun j h=>by omega,World.ownsRow_nil _ _ _ _,⟨a,c,hS0⟩,hb0,by omega⟩
   case round=>
    obtain⟨q,rfl,hpos,hown,⟨a',c',hS1⟩,hb1,hsz⟩:=hrel;have hr1:=Blk.cell hS1.blk 0 (v:= .string (stI L q).1) rfl;have hl1:=Blk.cell hS1.blk 1 (v:= .slice a' (stI L q).2.length c') rfl;have HEND:=Lib.hid (stI_end HPOS.out q)
    have hrs:(stI L q).1.size≤1099511627776:=by
     have h1:=congrArg Prod.fst (stI_dr L q);have h2:=dr_sum (L.map ByteArray.size) (pos (L.map ByteArray.size) q) 0;have h3:=HSM.out;have h4:=HN.out;simp only at h1;omega
    have kn:=next_any w wr g (stI L q).1 (stI L q).2 a' c' hS1 hb1 hbs hrs;obtain⟨rr,hrr⟩: ∃rr,(stI L q).1=rr:=⟨_,rfl⟩;obtain⟨ll,hll⟩: ∃ll,(stI L q).2=ll:=⟨_,rfl⟩;rw[hrr,hll]at kn;rw[hrr]at hr1 HEND;rw[hll]at hl1 HEND;rw[HSU.out]at HEND;by_cases hend:rr.size=0∧ll.length=0
    ·have t5:rr.toList.isEmpty=true:=by rw[isEmpty_iff];simpa using hend.1
     have t6:decide (0<ll.length)=false:=decide_eq_false (by omega);have HQ:=Lib.hid (show nP (L.map ByteArray.size)=q from Steps.eq ⟨by rw[HSU.out];exact HEND.out.1 hend,by rw[HSU.out];exact hpos⟩);clear kn hend hS1 hrs
     go_wp2_with fail
     go_ret3
     rw[HR.out];refine⟨?_,hb1⟩;rw[if_pos HF.out,HQ.out];obtain⟨ao,cap,rfl⟩:=own_form hown;exact⟨ao,cap,rfl,own_seq enPk_len hown (by simp[pks])⟩
    ·have HLT:=Lib.hid (show pos (L.map ByteArray.size) q<S from by
      have:=HEND.out;rcases Nat.lt_or_ge (pos (L.map ByteArray.size) q) S with h|h
      ·exact h
      ·exact absurd (this.2 h) hend)
     by_cases h0:rr.size=0
     ·have t5:rr.toList.isEmpty=true:=by rw[isEmpty_iff];simpa using h0
      have t6:decide (0<ll.length)=true:=decide_eq_true (by omega);clear hend hS1 hrs h0
      go_wp2_with fail
      (with_reducible refine(kn).mono ?_);rintro e W1 ⟨rfl,hs',hg'⟩
      obtain⟨a2,c2,hS2⟩:=hs';have hown1:=own_keep hown hg' (Nat.lt_succ_self g);obtain⟨cq,hcq⟩: ∃cq:Nat,(count+q)%16=cq:=⟨_,rfl⟩;have hcm:(((count:Int)+(q:Int))%16)=(cq:Int):=by omega
      have hc15:(cq:Int)≤15:=by omega
      have hc00:(0:Int)≤(cq:Int):=by omega
      have HOW:=Lib.hid hown1;have hb9:=Blk.new W1 92 #[.int .i64 pid,.bool (startB rr ll),.int .i64 (cq:Int),.bool false,.string (str (bodyL rr ll))];have hown2:=own_below hown1 ((Below.refl W1.heap.size W1).alloc (Nat.le_refl _) (.cells #[.int .i64 pid,.bool (startB rr ll),.int .i64 (cq:Int),.bool false,.string (str (bodyL rr ll))] 92));have hbw1:Below w.heap.size w W1:=hb1.trans (below_of_only hg' hb1.size (fun k hk=>by injection hk with hk;omega))
      have hqb:q≤2300000:=by
       have h1:=pos_ge (L.map ByteArray.size) q;have h2:=HLT.out;have h3:=HSM.out;have h4:=HN.out;have h5:=HSU.out;omega
      have hsz2:g+1≤(W1.alloc (.cells #[.int .i64 pid,.bool (startB rr ll),.int .i64 (cq:Int),.bool false,.string (str (bodyL rr ll))] 92)).heap.size:=by have:=hg'.size;simp;omega
      have hS3:Stm w (W1.alloc (.cells #[.int .i64 pid,.bool (startB rr ll),.int .i64 (cq:Int),.bool false,.string (str (bodyL rr ll))] 92)) g (stepS rr ll).1 (stepS rr ll).2 a2 c2:=⟨Blk.alloc hS2.blk _,hS2.seq,hS2.cap⟩;have hbw2:=hbw1.alloc hbw1.size (.cells #[.int .i64 pid,.bool (startB rr ll),.int .i64 (cq:Int),.bool false,.string (str (bodyL rr ll))] 92);have HR3:=Lib.hid (And.intro hrr (And.intro hll hcq));rw[hcq]
      try clear t6
      clear kn hr1 hl1 t5 hcq hrr hll hown hown1 hb1 hS2 hbw1
      go_wp2_with (at_builtin;refine wpList_app rfl _ _ rfl elemPk rfl hown2 rfl rfl (blk_news hb9) (by simp[Value.oneCell']) (by omega) (by unfold maxLen;omega) hsz2 ?_)
      intro v9 w8 hown9 hb8;have hlt8:g<g+1:=Nat.lt_succ_self g;have hbw3:=hbw2.trans (hb8.mono (by omega));have hS8:Stm w w8 g (stepS rr ll).1 (stepS rr ll).2 a2 c2:=⟨Blk.below hS3.blk hb8 hlt8,hS3.seq,hS3.cap⟩;have hz8:=Nat.le_trans hsz2 hb8.size;clear hown2 hb9 hS3 hbw2
      go_wp2_with fail
      go_roundw
      case rel=>
       obtain⟨h1,h2,h3⟩:=HR3.out;refine⟨q+1,by congr 1;omega,fun j hj=>?_,?_,⟨a2,c2,?_⟩,hbw3,hz8⟩
       ·rcases Nat.lt_or_ge j q with h|h
        ·exact hpos j h
        ·obtain rfl:j=q:=by omega
         exact HLT.out
       ·rw[pks_snoc]
        have e:enPk (pkI pid count L q)=[.int .i64 pid,.bool (startB rr ll),.int .i64 (cq:Int),.bool false,.string (str (bodyL rr ll))]:=by unfold pkI enPk;rw[h1,h2,h3]
        rw[e];exact hown9
       ·rw[stI,h1,h2]
        exact hS8
      case measure=>
       obtain⟨x1,x2,hx⟩:=own_form hown9;obtain⟨y1,y2,hy⟩:=own_form HOW.out;rw[hx,hy];simp[lenV];have h1:=pos_ge (L.map ByteArray.size) q;have h2:=HLT.out;omega
     ·have t5:rr.toList.isEmpty=false:=by rw[isEmpty_iff];simpa using h0
      clear hend hS1 hrs h0
      go_wp2_with fail
      (with_reducible refine(kn).mono ?_);rintro e W1 ⟨rfl,hs',hg'⟩
      obtain⟨a2,c2,hS2⟩:=hs';have hown1:=own_keep hown hg' (Nat.lt_succ_self g);obtain⟨cq,hcq⟩: ∃cq:Nat,(count+q)%16=cq:=⟨_,rfl⟩;have hcm:(((count:Int)+(q:Int))%16)=(cq:Int):=by omega
      have hc15:(cq:Int)≤15:=by omega
      have hc00:(0:Int)≤(cq:Int):=by omega
      have HOW:=Lib.hid hown1;have hb9:=Blk.new W1 92 #[.int .i64 pid,.bool (startB rr ll),.int .i64 (cq:Int),.bool false,.string (str (bodyL rr ll))];have hown2:=own_below hown1 ((Below.refl W1.heap.size W1).alloc (Nat.le_refl _) (.cells #[.int .i64 pid,.bool (startB rr ll),.int .i64 (cq:Int),.bool false,.string (str (bodyL rr ll))] 92));have hbw1:Below w.heap.size w W1:=hb1.trans (below_of_only hg' hb1.size (fun k hk=>by injection hk with hk;omega))
      have hqb:q≤2300000:=by
       have h1:=pos_ge (L.map ByteArray.size) q;have h2:=HLT.out;have h3:=HSM.out;have h4:=HN.out;have h5:=HSU.out;omega
      have hsz2:g+1≤(W1.alloc (.cells #[.int .i64 pid,.bool (startB rr ll),.int .i64 (cq:Int),.bool false,.string (str (bodyL rr ll))] 92)).heap.size:=by have:=hg'.size;simp;omega
      have hS3:Stm w (W1.alloc (.cells #[.int .i64 pid,.bool (startB rr ll),.int .i64 (cq:Int),.bool false,.string (str (bodyL rr ll))] 92)) g (stepS rr ll).1 (stepS rr ll).2 a2 c2:=⟨Blk.alloc hS2.blk _,hS2.seq,hS2.cap⟩;have hbw2:=hbw1.alloc hbw1.size (.cells #[.int .i64 pid,.bool (startB rr ll),.int .i64 (cq:Int),.bool false,.string (str (bodyL rr ll))] 92);have HR3:=Lib.hid (And.intro hrr (And.intro hll hcq));rw[hcq]
      try clear t6
      clear kn hr1 hl1 t5 hcq hrr hll hown hown1 hb1 hS2 hbw1
      go_wp2_with (at_builtin;refine wpList_app rfl _ _ rfl elemPk rfl hown2 rfl rfl (blk_news hb9) (by simp[Value.oneCell']) (by omega) (by unfold maxLen;omega) hsz2 ?_)
      intro v9 w8 hown9 hb8;have hlt8:g<g+1:=Nat.lt_succ_self g;have hbw3:=hbw2.trans (hb8.mono (by omega));have hS8:Stm w w8 g (stepS rr ll).1 (stepS rr ll).2 a2 c2:=⟨Blk.below hS3.blk hb8 hlt8,hS3.seq,hS3.cap⟩;have hz8:=Nat.le_trans hsz2 hb8.size;clear hown2 hb9 hS3 hbw2
      go_wp2_with fail
      go_roundw
      case rel=>
       obtain⟨h1,h2,h3⟩:=HR3.out;refine⟨q+1,by congr 1;omega,fun j hj=>?_,?_,⟨a2,c2,?_⟩,hbw3,hz8⟩
       ·rcases Nat.lt_or_ge j q with h|h
        ·exact hpos j h
        ·obtain rfl:j=q:=by omega
         exact HLT.out
       ·rw[pks_snoc]
        have e:enPk (pkI pid count L q)=[.int .i64 pid,.bool (startB rr ll),.int .i64 (cq:Int),.bool false,.string (str (bodyL rr ll))]:=by unfold pkI enPk;rw[h1,h2,h3]
        rw[e];exact hown9
       ·rw[stI,h1,h2]
        exact hS8
      case measure=>
       obtain⟨x1,x2,hx⟩:=own_form hown9;obtain⟨y1,y2,hy⟩:=own_form HOW.out;rw[hx,hy];simp[lenV];have h1:=pos_ge (L.map ByteArray.size) q;have h2:=HLT.out;omega
end Go.Proofs.YtibjkhepedfpiaaDoor.PaK
