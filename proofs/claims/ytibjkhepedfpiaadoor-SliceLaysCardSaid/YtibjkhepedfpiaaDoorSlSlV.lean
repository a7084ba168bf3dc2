import Derived.Test.YtibjkhepedfpiaaDoorSlSlU
namespace Go.Proofs.YtibjkhepedfpiaaDoor.SlV
open Go Go.RowKit Q Mem Rg Ap ApG ApC St CrB BiW BiG PaP SlP SlU
theorem mem_le: ∀{l:List Nat} {x:Nat},x∈l→x≤l.sum
 |[],x,h=>by cases h
 |y::t,x,h=>by
  rw[List.sum_cons];rcases List.mem_cons.1 h with rfl|h
  ·omega
  ·have:=mem_le h;omega
theorem elemR:Elem Tryd.prog 74 77 5 48:=elem_of Tryd.underlying74 (z:= .agg #[.int .i64 0,.bool false,.int .i64 0,.bool false,.string ByteArray.empty]) (by kernel_rfl) rfl (by decide)
def strZ:Value→Nat
 | .string s=>s.size
 |_=>0
theorem dr_zero (d r:Nat) (ls:List Nat) (h:r≤d):dr d r ls=dr (d-r) 0 ls:=by
 cases ls with
 |nil=>simp[dr];omega
 |cons x t=>
  rw[dr,dr];by_cases e:d=r
  ·subst e;simp
  ·rw[if_neg (by omega),if_neg (by omega)];simp
theorem dr_long (d x:Nat) (t:List Nat) (h:d<x):dr d 0 (x::t)=(x-d,t)∨d=0:=by
 by_cases e:d=0
 ·exact Or.inr e
 ·left
  rw[dr,if_neg (by omega)]
  cases t with
  |nil=>simp[dr]
  |cons y t=>rw[dr,if_pos (by omega)];simp
theorem dr_short (d x:Nat) (t:List Nat) (h:x≤d) (hd:0<d):dr d 0 (x::t)=dr (d-x) 0 t:=by
 rw[dr,if_neg (by omega),Nat.sub_zero,dr_zero d x t h]
theorem dr_nil (d r:Nat):dr d r []=(r-d,[]):=rfl
theorem dr_in (d r:Nat) (ls:List Nat) (h:d≤r):dr d r ls=(r-d,ls):=by
 cases ls with
 |nil=>rfl
 |cons x t=>rw[dr,if_pos h]
theorem dr_all (ls:List Nat) (d r:Nat) (hp: ∀x∈ls,0<x) (h:r+ls.sum≤d):dr d r ls=(0,[]):=by
 obtain⟨h1,h2⟩:=(dr_end ls d r hp).2 h;rw[←h1,←h2]
set_option maxRecDepth 100000
set_option maxHeartbeats 3200000 in
theorem bodies_any (a:Option Addr) (n c:Nat) (S:List ByteArray) (w:World) (hn:S.length=n) (hl:n≤100000) (hS:Seq enS 1 w a S) (hp: ∀s∈S,0<s.size) (hz:(S.map ByteArray.size).sum≤1099511627776):
 Calls Tryd.prog 27 #[.slice a n c] w fun e w'=>Below w.heap.size w w'∧ ∃ao co,e= .returned (.slice ao (nP (S.map ByteArray.size)) co):=by
 have HS:=Lib.hid hS;have HN:=Lib.hid hn;have HZ:=Lib.hid hz;have HP:=Lib.hid (show ∀x∈S.map ByteArray.size,0<x from fun x hx=>by obtain⟨s,hs,rfl⟩:=List.mem_map.1 hx;exact hp s hs);clear hS hn hp hz
 go_enter Tryd.func27,Tryd.ntmps27
 go_wp2_with fail
 go_loopw [3,4] (fun rv i wr=> ∃(q:Nat) (x:ByteArray),q≤n∧i= .int .i64 q∧rv= .string x∧Hid (x.size=((S.map ByteArray.size).take q).sum)∧w=wr) (fun _ i _=>n-(intOf i).toNat)
 case atStart=>exact⟨0,⟨#[]⟩,by omega,rfl,rfl,Lib.hid rfl,by trivial⟩
 case round=>
  obtain⟨q,x,hq,rfl,rfl,hx,rfl⟩:=hrel;by_cases hqn:q<n
  ·have t0:decide (q<n)=true:=decide_eq_true hqn
   obtain⟨s,hs⟩: ∃s,S[q]? =some s:=⟨_,List.getElem?_eq_getElem (by rw[HN.out];exact hqn)⟩;obtain⟨b0,o0,rfl,hlt,hc⟩:=HS.out q s hs;have c0:w.cell? ⟨b0,o0+q,none⟩=some (.string s):=hc 0 _ rfl;have k0:(0:Int)≤(q:Int):=Int.natCast_nonneg _;have k1:(q:Int)<(n:Int):=by omega
   have hsum:((S.map ByteArray.size).take (q+1)).sum=x.size+s.size:=by
    rw[hx.out,List.take_add_one,List.getElem?_map,hs];simp
   have hle:((S.map ByteArray.size).take (q+1)).sum≤1099511627776:=by
    have:=HZ.out;have h2:(S.map ByteArray.size).sum=((S.map ByteArray.size).take (q+1)).sum+((S.map ByteArray.size).drop (q+1)).sum:=by rw[←List.sum_append,List.take_append_drop]
    omega
   have ka:=fun U=>add_at x s (by omega) U;have HX:=Lib.hid (show(x++s).size=((S.map ByteArray.size).take (q+1)).sum from by rw[ByteArray.size_append,hsum]);clear hc hs hsum hle
   go_wp2_with fail
   go_roundw
   case rel=>exact⟨q+1,x++s,by omega,by go_num,rfl,HX,by trivial⟩
   case measure=>simp[intOf];omega
  ·obtain rfl:q=n:=by omega
   have t0:decide (q<q)=false:=by simp
   have hxs:x.size=(S.map ByteArray.size).sum:=by rw[hx.out,List.take_of_length_le (by rw[List.length_map,HN.out];exact Nat.le_refl _)]
   obtain⟨ls,hls⟩: ∃ls,S.map ByteArray.size=ls:=⟨_,rfl⟩;rw[hls]at hxs HZ HP ⊢;obtain⟨T,hT⟩: ∃T,ls.sum=T:=⟨_,rfl⟩;rw[hT]at hxs HZ;have HT:=Lib.hid hT;have HL:=Lib.hid hls;have HLL:=Lib.hid (show ls.length=q from by rw[←hls,List.length_map,HN.out]);clear hT hls hx hqn hq
   go_wp2_with fail
   go_loopw [3,5,6,7] (fun rv out rr nx wr=> ∃(k:Nat) (x:ByteArray) (r m:Nat) (xs:List Value),rv= .string x∧rr= .int .i64 r∧nx= .int .i64 m∧m≤q∧Hid (x.size=T-pos ls k∧(r,ls.drop m)=dr (pos ls k) 0 ls∧ ∀j,j<k→pos ls j<T)∧
    wr.ownsRow w.heap.size 77 5 out k xs∧Below w.heap.size w wr) (fun rv _ _ _ _=>strZ rv)
   case atStart=>exact⟨0,x,0,0,[],rfl,rfl,rfl,by omega,Lib.hid ⟨by simp[pos,hxs],by rw[pos,dr_in _ _ _ (Nat.le_refl _)];rfl,fun j hj=>by omega⟩,World.ownsRow_nil _ _ _ _,Below.refl _ _⟩
   case round=>
    clear hxs;obtain⟨k,x,r,m,xs,rfl,rfl,rfl,hm,HI,hown,hb⟩:=hrel;by_cases hx0:0<x.size
    ·have t0:decide (0<x.size)=true:=decide_eq_true hx0
     have hdp:pos ls k<T:=by have:=HI.out.1;omega
     have hrs:r+(ls.drop m).sum=x.size:=by
      have h1:=dr_sum ls (pos ls k) 0;rw[←HI.out.2.1,HT.out]at h1;have h2:=HI.out.1;dsimp only at h1;omega
     have hkB:k≤6010000000:=by
      have:=pos_ge ls k;have:=HZ.out;omega
     have hxB:x.size≤1099511627776:=by have:=HZ.out;have:=HI.out.1;omega
     have hbs:=hb.size;by_cases h183:183≤r
     ·have t1:decide (183≤r)=true:=decide_eq_true h183
      obtain⟨nn,hnn⟩: ∃nn,min r 184=nn:=⟨_,rfl⟩
      have hmn: ∀(ts:Array TypeId) (ty:TypeId) (V:World),(Builtin.min_ ts ty #[.int .i64 (r:Int),.int .i64 184]).run Tryd.prog V= .ok (.int .i64 (nn:Int)) V:=fun ts ty V=>by
       rw[run_min_int2]
       congr 2
       split<;>omega
      have n1:(nn:Int)≤(x.size:Int):=by omega
      have n2:(0:Int)≤(nn:Int):=by omega
      have n3:(x.extract nn x.size).size=x.size-nn:=by rw[ByteArray.size_extract];omega
      have HNx:=Lib.hid (show(x.extract nn x.size).size=T-pos ls (k+1)∧(r-nn,ls.drop m)=dr (pos ls (k+1)) 0 ls∧ ∀j,j<k+1→pos ls j<T from by
       have hfp:pos ls (k+1)=pos ls k+nn:=by
        rw[pos,fp,←HI.out.2.1];dsimp only
        split<;>omega
       refine⟨by rw[n3,hfp];have:=HI.out.1;omega,?_,fun j hj=>?_⟩
       ·rw[hfp,←dr_add,←HI.out.2.1,dr_in _ _ _ (by omega)]
       ·rcases Nat.lt_or_ge j k with h|h
        ·exact HI.out.2.2 j h
        ·obtain rfl:j=k:=by omega
         exact hdp)
      have hb9:=Blk.new wr 77 #[.int .i64 0,.bool false,.int .i64 0,.bool false,.string (x.extract 0 nn)];have hown2:=own_below hown ((Below.refl wr.heap.size wr).alloc (Nat.le_refl _) (.cells #[.int .i64 0,.bool false,.int .i64 0,.bool false,.string (x.extract 0 nn)] 77));have hsz2:w.heap.size≤(wr.alloc (.cells #[.int .i64 0,.bool false,.int .i64 0,.bool false,.string (x.extract 0 nn)] 77)).heap.size:=by simp;omega
      have hb2:=hb.alloc hb.size (.cells #[.int .i64 0,.bool false,.int .i64 0,.bool false,.string (x.extract 0 nn)] 77);clear hown hb;have hcast:((r-nn:Nat):Int)=(r:Int)-(nn:Int):=by omega
      have HC:=Lib.hid hcast;have hrB:(r:Int)≤1099511627776:=by omega
      clear hcast hrs hdp;have hnr:(nn:Int)≤(r:Int):=by omega
      have hnp:0<nn:=by omega
      clear hnn
      go_wp2_with (at_builtin;refine wpList_app rfl _ _ rfl elemR rfl hown2 rfl rfl (blk_news hb9) (by simp[Value.oneCell']) (by omega) (by unfold maxLen;omega) hsz2 ?_)
      intro v9 w8 hown9 hb8;have hb3:=hb2.trans hb8;clear hown2 hb9 hb2 hb8
      go_wp2_with fail
      go_roundw
      case rel=>exact⟨k+1,x.extract nn x.size,r-nn,m,_,rfl,by rw[HC.out],rfl,hm,HNx,hown9,hb3⟩
      case measure=>simp only[strZ];omega
     ·have t1:decide (183≤r)=false:=decide_eq_false h183
      by_cases hq:0<r∧m=q
      ·obtain⟨hr0,rfl⟩:=hq
       have t2:decide (0<r)=true:=decide_eq_true hr0;have t3:(m==m)=true:=beq_self_eq_true m;have kf:=fun V=>filled_any x V hxB
       have HK:=Lib.hid (show nP ls=k+1 from by
        have hd0:ls.drop m=[]:=List.drop_of_length_le (by rw[HLL.out];exact Nat.le_refl _);rw[hd0]at hrs;simp at hrs
        have hfp:pos ls (k+1)=pos ls k+183:=by
         rw[pos,fp,←HI.out.2.1];dsimp only;rw[if_neg (by omega)]
        refine Steps.eq ⟨by rw[HT.out,hfp];have:=HI.out.1;omega,fun j hj=>?_⟩;rw[HT.out];rcases Nat.lt_or_ge j k with h|h
        ·exact HI.out.2.2 j h
        ·obtain rfl:j=k:=by omega
         exact hdp)
       obtain⟨F,hF⟩: ∃F,str (fillL x)=F:=⟨_,rfl⟩;rw[hF]at kf;clear hrs hF hdp
       go_wp2_with fail
       (with_reducible refine(kf _).mono ?_);rintro e1 W1 ⟨rfl,hb1⟩
       have hown1:=own_below hown hb1;have hb2:=hb.trans (hb1.mono hbs);have hb9:=Blk.new W1 77 #[.int .i64 0,.bool false,.int .i64 0,.bool false,.string F];have hown2:=own_below hown1 ((Below.refl W1.heap.size W1).alloc (Nat.le_refl _) (.cells #[.int .i64 0,.bool false,.int .i64 0,.bool false,.string F] 77));have hsz2:w.heap.size≤(W1.alloc (.cells #[.int .i64 0,.bool false,.int .i64 0,.bool false,.string F] 77)).heap.size:=by have:=hb2.size;simp;omega
       have hb3:=hb2.alloc hb2.size (.cells #[.int .i64 0,.bool false,.int .i64 0,.bool false,.string F] 77);clear hown hown1 kf hb1
       go_wp2_with (at_builtin;refine wpList_app rfl _ _ rfl elemR rfl hown2 rfl rfl (blk_news hb9) (by simp[Value.oneCell']) (by omega) (by unfold maxLen;omega) hsz2 ?_)
       intro v9 w8 hown9 hb8;have hb4:=hb3.trans hb8;obtain⟨ao,co,rfl⟩:=own_form hown9;clear hown2 hb9 hb3 hb8
       go_wp2_with fail
       go_ret;exact⟨hb4,ao,co,by rw[HL.out,HK.out];rfl⟩
      ·obtain⟨nn,hnn⟩: ∃nn,min 183 x.size=nn:=⟨_,rfl⟩
       have hmn: ∀(ts:Array TypeId) (ty:TypeId) (V:World),(Builtin.min_ ts ty #[.int .i64 183,.int .i64 (x.size:Int)]).run Tryd.prog V= .ok (.int .i64 (nn:Int)) V:=fun ts ty V=>by
        rw[run_min_int2]
        congr 2
        split<;>omega
       have n1:(nn:Int)≤(x.size:Int):=by omega
       have n2:(0:Int)≤(nn:Int):=by omega
       have n3:(x.extract nn x.size).size=x.size-nn:=by rw[ByteArray.size_extract];omega
       have n4:(r:Int)≤(nn:Int):=by omega
       have n5:(nn:Int)≤183:=by omega
       have n6:(0:Int)≤(r:Int):=by omega
       have q1:IntKind.u8.wrap (r:Int)=(r:Int):=by rw[IntKind.wrap_u8];omega
       have hso:strOfNums [(r:Int)]=str [UInt8.ofNat r]:=by rw[nums_str];rfl
       have ka:=fun U=>add_at (strOfNums [(r:Int)]) (x.extract 0 nn) (by rw[hso,←bl_len,bl_str,ext_size _ (by omega)];simp;omega) U;obtain⟨Y,hY⟩: ∃Y,strOfNums [(r:Int)]++x.extract 0 nn=Y:=⟨_,rfl⟩;have hYz:Y.size≤1000:=by rw[←hY,ByteArray.size_append,hso,←bl_len,bl_str,ext_size _ (by omega)];simp;omega
       rw[hY]at ka;have kf:=fun V=>filled_any Y V (by omega);obtain⟨F,hF⟩: ∃F,str (fillL Y)=F:=⟨_,rfl⟩;rw[hF]at kf
       have HTG:=Lib.hid (show dr nn r (ls.drop m)=dr 183 r (ls.drop m)from by
        by_cases h:183≤x.size
        ·rw[show nn=183 by omega]
        ·rw[dr_all _ nn r (fun y hy=>HP.out y (List.mem_of_mem_drop hy)) (by omega),dr_all _ 183 r (fun y hy=>HP.out y (List.mem_of_mem_drop hy)) (by omega)])
       have HST:=Lib.hid (show(x.extract nn x.size).size=T-pos ls (k+1)∧dr 183 r (ls.drop m)=dr (pos ls (k+1)) 0 ls∧ ∀j,j<k+1→pos ls j<T from by
        have hfp:pos ls (k+1)=pos ls k+183:=by
         rw[pos,fp,←HI.out.2.1];dsimp only;rw[if_neg (by omega)]
        refine⟨by rw[n3,hfp];have:=HI.out.1;omega,?_,fun j hj=>?_⟩
        ·rw[hfp,←dr_add,←HI.out.2.1]
        ·rcases Nat.lt_or_ge j k with h|h
         ·exact HI.out.2.2 j h
         ·obtain rfl:j=k:=by omega
          exact hdp)
       have HM:=Lib.hid (show dr (nn-r) 0 (ls.drop m)=dr nn r (ls.drop m)from(dr_zero nn r _ (by omega)).symm);have hnp:0<nn:=by omega
       clear hrs hdp hso hY hF hnn;by_cases hr0:0<r
       ·have t2:decide (0<r)=true:=decide_eq_true hr0
        have t3:(m==q)=false:=beq_eq_false_iff_ne.2 (fun e=>hq ⟨hr0,e⟩);have t4:((m:Int)==(q:Int))=false:=beq_eq_false_iff_ne.2 (fun e=>hq ⟨hr0,by omega⟩);clear hq hr0
        go_wp2_with fail
        refine Go.Proofs.YtibjkhepedfpiaaDoor.Rg.region_new [(3,newS 1 5 #[.int .u8 (r:Int)] 0),(4,val (.string (strOfNums [(r:Int)]))),(9,val (.string F)),(11,newS 1 77 #[.int .i64 0,.bool true,.int .i64 0,.bool false,.string F] 0)] 12 (by kernel_rfl) (by kernel_rfl) (by kernel_rfl) (lk_cons newS_inh (lk_cons val_inh (lk_cons val_inh (lk_cons newS_inh lk_nil)))) (lk_cons newS_mono (lk_cons val_mono (lk_cons val_mono (lk_cons newS_mono lk_nil)))) ?_;intro σ hσ;simp only[List.take_succ_cons,List.take_zero,List.drop_succ_cons,List.drop_zero];have hσv:σ 4= .string (strOfNums [(r:Int)]):=hσ 4 _ rfl;have hσd:σ 9= .string F:=hσ 9 _ rfl;refine Go.Proofs.YtibjkhepedfpiaaDoor.Rg.wpN_take 3 (by kernel_rfl) (by kernel_rfl) (by kernel_rfl) ?_;simp only[List.take_succ_cons,List.take_zero,List.drop_succ_cons,List.drop_zero]
        repeat (go_big_quiet_step (fail))
        refine wpQuiet_nil ?_;refine wpN_sp _ rfl (by kernel_rfl) (spAt_newS 1 5 #[.int .u8 (r:Int)] (Nat.zero_le _) (by intro w0;go_simp)) ?_;simp only[Act.put,List.setIfInBounds_toArray,List.set_cons_zero,List.set_cons_succ];refine wpN_sp _ rfl (by kernel_rfl) (spAt_read (fun p hd=>?_)) ?_
        ·obtain⟨g,hg,_,hblk⟩:=dep_at hd 3 rfl (by kernel_rfl)
         have hcv2:=run_convert_bytes_arg (P:=Tryd.prog) (ext _ p) 42 5 Tryd.underlying42 Tryd.underlying5 g 0 1 1 [(r:Int)] rfl (fun j hj=>by
          match j,hj with
          |0,_=>exact Blk.cell hblk 0 rfl) _ Tryd.underlying9
         rw[hg]
         go_simp
        simp only[Act.put,List.setIfInBounds_toArray,List.set_cons_zero,List.set_cons_succ];rw[hσv];refine Go.Proofs.YtibjkhepedfpiaaDoor.Rg.wpN_take 4 (by kernel_rfl) (by kernel_rfl) (by kernel_rfl) ?_;simp only[List.take_succ_cons,List.take_zero,List.drop_succ_cons,List.drop_zero]
        repeat (go_big_quiet_step (fail))
        refine wpQuiet_nil ?_;refine wpN_sp _ rfl (by kernel_rfl) (spAt_val (f:=41) (args:= #[.string Y]) (by intro w0;go_simp) (fun p _=>kf _)) ?_;simp only[Act.put,List.setIfInBounds_toArray,List.set_cons_zero,List.set_cons_succ];rw[hσd];refine Go.Proofs.YtibjkhepedfpiaaDoor.Rg.wpN_take 1 (by kernel_rfl) (by kernel_rfl) (by kernel_rfl) ?_;simp only[List.take_succ_cons,List.take_zero,List.drop_succ_cons,List.drop_zero]
        repeat (go_big_quiet_step (fail))
        refine wpQuiet_nil ?_;refine wpN_sp _ rfl (by kernel_rfl) (spAt_newS 1 77 #[.int .i64 0,.bool true,.int .i64 0,.bool false,.string F] (Nat.zero_le _) (by intro w0;go_simp)) ?_;simp only[Act.put,List.setIfInBounds_toArray,List.set_cons_zero,List.set_cons_succ];refine wpN_nil ?_;rintro w9 ⟨pq,rfl⟩ hp;obtain⟨g9,hg9,_,hb9⟩:=hp 11 _ rfl;rw[hg9];clear hp hσ hσv hσd;have hown0:=own_below hown (below_ext _ pq);have hb1:=hb.trans ((below_ext _ pq).mono hbs);have hsz0:=hb1.size;refine wpList_app rfl _ _ rfl elemR rfl hown0 rfl rfl (blk_news hb9) (by simp[Value.oneCell']) (by omega) (by unfold maxLen;omega) hsz0 ?_;intro v9 w8 hown9 hb8;have hb7:=hb1.trans hb8;clear hown0 hb1 hb8 hb9 hg9 hsz0 hown hb hbs kf ka
        go_wp2_with fail
        have HS8:=Lib.hid (HS.out.below (Nat.le_refl _) hb7)
        go_loopw [6,7,10] (fun rr nx rm wi=> ∃(d r1 m1:Nat),rr= .int .i64 r1∧nx= .int .i64 m1∧rm= .int .i64 d∧m1≤q∧d≤183∧Hid (dr d r1 (ls.drop m1)=dr nn r (ls.drop m)∧(r1=0∨d=0))∧w8=wi) (fun _ nx _ _=>q-(intOf nx).toNat)
        case atStart=>exact⟨nn-r,0,m,rfl,rfl,congrArg (Value.int .i64) (by omega),hm,by omega,Lib.hid ⟨HM.out,Or.inl rfl⟩,by trivial⟩
        case round=>
         obtain⟨d,r1,m1,rfl,rfl,rfl,hm1,hd,HI1,rfl⟩:=hrel;by_cases hd0:0<d
         ·have u1:decide (0<d)=true:=decide_eq_true hd0
          obtain rfl:r1=0:=by rcases HI1.out.2 with h|h<;>omega
          by_cases hmq:m1<q
          ·have u2:decide (m1<q)=true:=decide_eq_true hmq
           obtain⟨s,hs⟩: ∃s,S[m1]? =some s:=⟨_,List.getElem?_eq_getElem (by rw[HN.out];exact hmq)⟩;obtain⟨b0,o0,ea,hlt,hc⟩:=HS8.out m1 s hs;subst ea;have c0:w8.cell? ⟨b0,o0+m1,none⟩=some (.string s):=hc 0 _ rfl;have k0:(0:Int)≤(m1:Int):=Int.natCast_nonneg _;have k1:(m1:Int)<(q:Int):=by omega
           have hdr:ls.drop m1=s.size::ls.drop (m1+1):=by
            rw[List.drop_eq_getElem_cons (by rw[HLL.out];exact hmq)]
            congr 1
            have:ls[m1]? =some s.size:=by rw[←HL.out,List.getElem?_map,hs];rfl
            exact(List.getElem?_eq_some_iff.1 this).2
           have hsB:(s.size:Int)≤1099511627776:=by
            have h1:=HZ.out;have h2:s.size∈ls:=by rw[←HL.out];exact List.mem_map_of_mem (List.mem_of_getElem? hs)
            have h3:=mem_le h2;rw[HT.out]at h3;omega
           by_cases hds:d<s.size
           ·have u3:decide (d<s.size)=true:=decide_eq_true hds
            have HR:=Lib.hid (show dr 0 (s.size-d) (ls.drop (m1+1))=dr nn r (ls.drop m)from by
             rw[←HI1.out.1,hdr,dr_in _ _ _ (Nat.zero_le _)];rcases dr_long d s.size (ls.drop (m1+1)) hds with h|h
             ·rw[h];rfl
             ·omega)
            have hcst:((s.size-d:Nat):Int)=(s.size:Int)-(d:Int):=by omega
            have HC:=Lib.hid hcst;clear hc hs hdr hcst
            go_wp2_with fail
            go_roundw
            case rel=>exact⟨0,s.size-d,m1+1,congrArg (Value.int .i64) (by rw[HC.out]),by go_num,rfl,by omega,by omega,Lib.hid ⟨HR.out,Or.inr rfl⟩,by trivial⟩
            case measure=>simp[intOf];omega
           ·have u3:decide (d<s.size)=false:=decide_eq_false hds
            have HR:=Lib.hid (show dr (d-s.size) 0 (ls.drop (m1+1))=dr nn r (ls.drop m)from by
             rw[←HI1.out.1,hdr,dr_short _ _ _ (by omega) hd0])
            have hcst:((d-s.size:Nat):Int)=(d:Int)-(s.size:Int):=by omega
            have HC:=Lib.hid hcst;clear hc hs hdr hcst
            go_wp2_with fail
            go_roundw
            case rel=>exact⟨d-s.size,0,m1+1,rfl,by go_num,congrArg (Value.int .i64) (by rw[HC.out]),by omega,by omega,Lib.hid ⟨HR.out,Or.inl rfl⟩,by trivial⟩
            case measure=>simp[intOf];omega
          ·obtain rfl:m1=q:=by omega
           have u2:decide (m1<m1)=false:=by simp
           have HE:=Lib.hid (show(0,ls.drop m1)=dr (pos ls (k+1)) 0 ls from by
            rw[←HST.out.2.1,←HTG.out,←HI1.out.1,List.drop_of_length_le (by rw[HLL.out];exact Nat.le_refl _),dr_nil];simp)
           go_wp2_with fail
           go_roundw
           case rel=>exact⟨k+1,x.extract nn x.size,_,m1,_,rfl,rfl,rfl,hm1,Lib.hid ⟨HST.out.1,HE.out,HST.out.2.2⟩,hown9,hb7⟩
           case measure=>simp only[strZ];omega
         ·obtain rfl:d=0:=by omega
          have u1:decide (0<0)=false:=rfl
          have HE:=Lib.hid (show(r1,ls.drop m1)=dr (pos ls (k+1)) 0 ls from by
           rw[←HST.out.2.1,←HTG.out,←HI1.out.1,dr_in _ _ _ (Nat.zero_le _)];rfl)
          go_wp2_with fail
          go_roundw
          case rel=>exact⟨k+1,x.extract nn x.size,_,m1,_,rfl,rfl,rfl,hm1,Lib.hid ⟨HST.out.1,HE.out,HST.out.2.2⟩,hown9,hb7⟩
          case measure=>simp only[strZ];omega
       ·have t2:decide (0<r)=false:=decide_eq_false hr0
        clear hq hr0
        go_wp2_with fail
        refine Go.Proofs.YtibjkhepedfpiaaDoor.Rg.region_new [(3,newS 1 5 #[.int .u8 (r:Int)] 0),(4,val (.string (strOfNums [(r:Int)]))),(9,val (.string F)),(11,newS 1 77 #[.int .i64 0,.bool true,.int .i64 0,.bool false,.string F] 0)] 12 (by kernel_rfl) (by kernel_rfl) (by kernel_rfl) (lk_cons newS_inh (lk_cons val_inh (lk_cons val_inh (lk_cons newS_inh lk_nil)))) (lk_cons newS_mono (lk_cons val_mono (lk_cons val_mono (lk_cons newS_mono lk_nil)))) ?_;intro σ hσ;simp only[List.take_succ_cons,List.take_zero,List.drop_succ_cons,List.drop_zero];have hσv:σ 4= .string (strOfNums [(r:Int)]):=hσ 4 _ rfl;have hσd:σ 9= .string F:=hσ 9 _ rfl;refine Go.Proofs.YtibjkhepedfpiaaDoor.Rg.wpN_take 3 (by kernel_rfl) (by kernel_rfl) (by kernel_rfl) ?_;simp only[List.take_succ_cons,List.take_zero,List.drop_succ_cons,List.drop_zero]
        repeat (go_big_quiet_step (fail))
        refine wpQuiet_nil ?_;refine wpN_sp _ rfl (by kernel_rfl) (spAt_newS 1 5 #[.int .u8 (r:Int)] (Nat.zero_le _) (by intro w0;go_simp)) ?_;simp only[Act.put,List.setIfInBounds_toArray,List.set_cons_zero,List.set_cons_succ];refine wpN_sp _ rfl (by kernel_rfl) (spAt_read (fun p hd=>?_)) ?_
        ·obtain⟨g,hg,_,hblk⟩:=dep_at hd 3 rfl (by kernel_rfl)
         have hcv2:=run_convert_bytes_arg (P:=Tryd.prog) (ext _ p) 42 5 Tryd.underlying42 Tryd.underlying5 g 0 1 1 [(r:Int)] rfl (fun j hj=>by
          match j,hj with
          |0,_=>exact Blk.cell hblk 0 rfl) _ Tryd.underlying9
         rw[hg]
         go_simp
        simp only[Act.put,List.setIfInBounds_toArray,List.set_cons_zero,List.set_cons_succ];rw[hσv];refine Go.Proofs.YtibjkhepedfpiaaDoor.Rg.wpN_take 4 (by kernel_rfl) (by kernel_rfl) (by kernel_rfl) ?_;simp only[List.take_succ_cons,List.take_zero,List.drop_succ_cons,List.drop_zero]
        repeat (go_big_quiet_step (fail))
        refine wpQuiet_nil ?_;refine wpN_sp _ rfl (by kernel_rfl) (spAt_val (f:=41) (args:= #[.string Y]) (by intro w0;go_simp) (fun p _=>kf _)) ?_;simp only[Act.put,List.setIfInBounds_toArray,List.set_cons_zero,List.set_cons_succ];rw[hσd];refine Go.Proofs.YtibjkhepedfpiaaDoor.Rg.wpN_take 1 (by kernel_rfl) (by kernel_rfl) (by kernel_rfl) ?_;simp only[List.take_succ_cons,List.take_zero,List.drop_succ_cons,List.drop_zero]
        repeat (go_big_quiet_step (fail))
        refine wpQuiet_nil ?_;refine wpN_sp _ rfl (by kernel_rfl) (spAt_newS 1 77 #[.int .i64 0,.bool true,.int .i64 0,.bool false,.string F] (Nat.zero_le _) (by intro w0;go_simp)) ?_;simp only[Act.put,List.setIfInBounds_toArray,List.set_cons_zero,List.set_cons_succ];refine wpN_nil ?_;rintro w9 ⟨pq,rfl⟩ hp;obtain⟨g9,hg9,_,hb9⟩:=hp 11 _ rfl;rw[hg9];clear hp hσ hσv hσd;have hown0:=own_below hown (below_ext _ pq);have hb1:=hb.trans ((below_ext _ pq).mono hbs);have hsz0:=hb1.size;refine wpList_app rfl _ _ rfl elemR rfl hown0 rfl rfl (blk_news hb9) (by simp[Value.oneCell']) (by omega) (by unfold maxLen;omega) hsz0 ?_;intro v9 w8 hown9 hb8;have hb7:=hb1.trans hb8;clear hown0 hb1 hb8 hb9 hg9 hsz0 hown hb hbs kf ka
        go_wp2_with fail
        have HS8:=Lib.hid (HS.out.below (Nat.le_refl _) hb7)
        go_loopw [6,7,10] (fun rr nx rm wi=> ∃(d r1 m1:Nat),rr= .int .i64 r1∧nx= .int .i64 m1∧rm= .int .i64 d∧m1≤q∧d≤183∧Hid (dr d r1 (ls.drop m1)=dr nn r (ls.drop m)∧(r1=0∨d=0))∧w8=wi) (fun _ nx _ _=>q-(intOf nx).toNat)
        case atStart=>exact⟨nn-r,0,m,rfl,rfl,congrArg (Value.int .i64) (by omega),hm,by omega,Lib.hid ⟨HM.out,Or.inl rfl⟩,by trivial⟩
        case round=>
         obtain⟨d,r1,m1,rfl,rfl,rfl,hm1,hd,HI1,rfl⟩:=hrel;by_cases hd0:0<d
         ·have u1:decide (0<d)=true:=decide_eq_true hd0
          obtain rfl:r1=0:=by rcases HI1.out.2 with h|h<;>omega
          by_cases hmq:m1<q
          ·have u2:decide (m1<q)=true:=decide_eq_true hmq
           obtain⟨s,hs⟩: ∃s,S[m1]? =some s:=⟨_,List.getElem?_eq_getElem (by rw[HN.out];exact hmq)⟩;obtain⟨b0,o0,ea,hlt,hc⟩:=HS8.out m1 s hs;subst ea;have c0:w8.cell? ⟨b0,o0+m1,none⟩=some (.string s):=hc 0 _ rfl;have k0:(0:Int)≤(m1:Int):=Int.natCast_nonneg _;have k1:(m1:Int)<(q:Int):=by omega
           have hdr:ls.drop m1=s.size::ls.drop (m1+1):=by
            rw[List.drop_eq_getElem_cons (by rw[HLL.out];exact hmq)]
            congr 1
            have:ls[m1]? =some s.size:=by rw[←HL.out,List.getElem?_map,hs];rfl
            exact(List.getElem?_eq_some_iff.1 this).2
           have hsB:(s.size:Int)≤1099511627776:=by
            have h1:=HZ.out;have h2:s.size∈ls:=by rw[←HL.out];exact List.mem_map_of_mem (List.mem_of_getElem? hs)
            have h3:=mem_le h2;rw[HT.out]at h3;omega
           by_cases hds:d<s.size
           ·have u3:decide (d<s.size)=true:=decide_eq_true hds
            have HR:=Lib.hid (show dr 0 (s.size-d) (ls.drop (m1+1))=dr nn r (ls.drop m)from by
             rw[←HI1.out.1,hdr,dr_in _ _ _ (Nat.zero_le _)];rcases dr_long d s.size (ls.drop (m1+1)) hds with h|h
             ·rw[h];rfl
             ·omega)
            have hcst:((s.size-d:Nat):Int)=(s.size:Int)-(d:Int):=by omega
            have HC:=Lib.hid hcst;clear hc hs hdr hcst
            go_wp2_with fail
            go_roundw
            case rel=>exact⟨0,s.size-d,m1+1,congrArg (Value.int .i64) (by rw[HC.out]),by go_num,rfl,by omega,by omega,Lib.hid ⟨HR.out,Or.inr rfl⟩,by trivial⟩
            case measure=>simp[intOf];omega
           ·have u3:decide (d<s.size)=false:=decide_eq_false hds
            have HR:=Lib.hid (show dr (d-s.size) 0 (ls.drop (m1+1))=dr nn r (ls.drop m)from by
             rw[←HI1.out.1,hdr,dr_short _ _ _ (by omega) hd0])
            have hcst:((d-s.size:Nat):Int)=(d:Int)-(s.size:Int):=by omega
            have HC:=Lib.hid hcst;clear hc hs hdr hcst
            go_wp2_with fail
            go_roundw
            case rel=>exact⟨d-s.size,0,m1+1,rfl,by go_num,congrArg (Value.int .i64) (by rw[HC.out]),by omega,by omega,Lib.hid ⟨HR.out,Or.inl rfl⟩,by trivial⟩
            case measure=>simp[intOf];omega
          ·obtain rfl:m1=q:=by omega
           have u2:decide (m1<m1)=false:=by simp
           have HE:=Lib.hid (show(0,ls.drop m1)=dr (pos ls (k+1)) 0 ls from by
            rw[←HST.out.2.1,←HTG.out,←HI1.out.1,List.drop_of_length_le (by rw[HLL.out];exact Nat.le_refl _),dr_nil];simp)
           go_wp2_with fail
           go_roundw
           case rel=>exact⟨k+1,x.extract nn x.size,_,m1,_,rfl,rfl,rfl,hm1,Lib.hid ⟨HST.out.1,HE.out,HST.out.2.2⟩,hown9,hb7⟩
           case measure=>simp only[strZ];omega
         ·obtain rfl:d=0:=by omega
          have u1:decide (0<0)=false:=rfl
          have HE:=Lib.hid (show(r1,ls.drop m1)=dr (pos ls (k+1)) 0 ls from by
           rw[←HST.out.2.1,←HTG.out,←HI1.out.1,dr_in _ _ _ (Nat.zero_le _)];rfl)
          go_wp2_with fail
          go_roundw
          case rel=>exact⟨k+1,x.extract nn x.size,_,m1,_,rfl,rfl,rfl,hm1,Lib.hid ⟨HST.out.1,HE.out,HST.out.2.2⟩,hown9,hb7⟩
          case measure=>simp only[strZ];omega
    ·have t0:decide (0<x.size)=false:=decide_eq_false hx0
     have HK:=Lib.hid (show nP ls=k from Steps.eq ⟨by rw[HT.out];have:=HI.out.1;omega,by rw[HT.out];exact HI.out.2.2⟩);obtain⟨ao,co,rfl⟩:=own_form hown
     go_wp2_with fail
     go_ret;exact⟨hb,ao,co,by rw[HL.out,HK.out];rfl⟩
end Go.Proofs.YtibjkhepedfpiaaDoor.SlV
