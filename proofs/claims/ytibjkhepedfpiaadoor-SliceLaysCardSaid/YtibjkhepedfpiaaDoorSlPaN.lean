import Derived.Test.YtibjkhepedfpiaaDoorSlPaT
import Derived.Deep.RegionWith
namespace Go.Proofs.YtibjkhepedfpiaaDoor.PaN
open Go Go.RowKit Q Mem Rg Ap St CrB SeEq PaR PaA PaT
theorem only_fresh {a b:World} {row:Option Nat} (h:a.drew.grownBy b row):a.grownBy b row:=⟨h.os,h.tape,h.output,h.size,h.block⟩
theorem tkS_len: ∀(l:List ByteArray) (n:Nat) (r:ByteArray),(tkS n r l).length≤n
 |[],n,r=>by simp[tkS];omega
 |x::t,n,r=>by
  rw[tkS]
  split
  ·simp;omega
  ·have:=tkS_len t (n-r.size) x
   rw[List.length_append,bl_len];omega
theorem ff_size (k:Nat):(ff k).size=k:=by
 have:(bl (ff k)).length=k:=by unfold ff;rw[bl_str,List.length_replicate]
 exact this
def startB (r:ByteArray) (l:List ByteArray):Bool:= !(decide (183≤r.size)||(decide (0<r.size)&&decide (l.length=0)))
def bodyL (r:ByteArray) (l:List ByteArray):List UInt8:=
 if startB r l then(UInt8.ofNat r.size::tkS 183 r l)++List.replicate (184-(1+(tkS 183 r l).length)) 255
 else(bl r).take 184++List.replicate (if r.size<183 then 184-r.size else 0) 255
theorem body_no {r:ByteArray} {l:List ByteArray} (h:startB r l=false):bodyL r l=(bl r).take 184++List.replicate (if r.size<183 then 184-r.size else 0) 255:=by
 unfold bodyL;rw[h];rfl
theorem body_yes {r:ByteArray} {l:List ByteArray} (h:startB r l=true):bodyL r l=(UInt8.ofNat r.size::tkS 183 r l)++List.replicate (184-(1+(tkS 183 r l).length)) 255:=by
 unfold bodyL;rw[h];rfl
def stepS (r:ByteArray) (l:List ByteArray):ByteArray×List ByteArray:=drS (if 184≤r.size then 184 else 183) r l
theorem conv_blk {V:World} {g:Nat} {x:Int} (q:Blk V g 5 #[.int .u8 x]):
 (convert 42 9 (.slice (some ⟨g,0,none⟩) 1 1)).run Tryd.prog V= .ok (.string (strOfNums [x])) V:=
 run_convert_bytes_arg (P:=Tryd.prog) _ 42 5 Tryd.underlying42 Tryd.underlying5 g 0 1 1 [x] rfl (fun j hj=>by
  obtain rfl:j=0:=by omega
  exact Blk.cell q 0 rfl) _ Tryd.underlying9
set_option maxRecDepth 100000
set_option maxHeartbeats 3200000 in
theorem next_any (w0 w:World) (g:Nat) (r:ByteArray) (l:List ByteArray) (a:Option Addr) (c:Nat) (hS:Stm w0 w g r l a c) (hb:Below w0.heap.size w0 w) (hg:w0.heap.size≤g) (hr:r.size≤1099511627776):
 Calls Tryd.prog 39 #[.pointer (some ⟨g,0,none⟩)] w fun e w'=>e= .returned (.tuple #[.string (str (bodyL r l)),.bool (startB r l)])∧(∃a' c',Stm w0 w' g (stepS r l).1 (stepS r l).2 a' c')∧w.grownBy w' (some g):=by
 have HS:=Lib.hid hS;have hgw:g<w.heap.size:=hS.blk.lt;have e0:=Blk.cell hS.blk 0 (v:= .string r) rfl;have e1:=Blk.cell hS.blk 1 (v:= .slice a l.length c) rfl;have f0:=Blk.frozen hS.blk 0;by_cases h183:183≤r.size
 ·have t1:decide (183≤(r.size:Int))=true:=by simp;omega
  obtain⟨k,hk⟩: ∃k,min r.size 184=k:=⟨_,rfl⟩
  have hmn: ∀(ts:Array TypeId) (ty:TypeId) (V:World),(Builtin.min_ ts ty #[.int .i64 (r.size:Int),.int .i64 184]).run Tryd.prog V= .ok (.int .i64 (k:Int)) V:=fun ts ty V=>by
   rw[run_min_int2]
   congr 2
   split<;>omega
  have t2:decide ((r.size:Int)<183)=false:=by simp;omega
  have n1:(k:Int)≤(r.size:Int):=by omega
  have n2:(0:Int)≤(k:Int):=by omega
  have n3:(r.extract 0 k).size=k:=by rw[ext_size _ (by omega)];omega
  have HX:=Lib.hid (show str (bodyL r l)=r.extract 0 k∧startB r l=false∧stepS r l=(r.extract k r.size,l)from by
   have hs:startB r l=false:=by unfold startB;rw[decide_eq_true h183];rfl
   refine⟨?_,hs,?_⟩
   ·rw[body_no hs,if_neg (by omega)]
    refine bl_inj ?_;rw[ext_bl,bl_str];simp;rcases Nat.le_total 184 r.size with h|h
    ·rw[show k=184 by omega]
    ·rw[bl_len];omega
   ·unfold stepS
    split
    ·rw[drS_in (by omega),show k=184 by omega]
    ·rw[drS_in (by omega),show k=183 by omega])
  have hbl2:=Blk.set_ hS.blk 0 (.string (r.extract k r.size));have HB:=Lib.hid hbl2;clear hS hk h183 hbl2
  go_enter Tryd.func39,Tryd.ntmps39
  go_wp2_with fail
  go_ret2
  refine⟨by rw[HX.out.1,HX.out.2.1];rfl,⟨a,c,?_⟩,only_set (only_refl _ _) 0 _⟩;rw[HX.out.2.2];exact⟨HB.out,HS.out.seq,HS.out.cap⟩
 ·have t1:decide (183≤(r.size:Int))=false:=by simp;omega
  have t2:decide ((r.size:Int)<183)=true:=by simp;omega
  by_cases hq:0<r.size∧l.length=0
  ·obtain⟨hr0,hl0⟩:=hq
   have t3:decide ((0:Int)<(r.size:Int))=true:=by simp;omega
   have t4:(l.length==0)=true:=beq_iff_eq.2 hl0;obtain⟨k,hk⟩: ∃k,r.size=k:=⟨_,rfl⟩
   have hmn: ∀(ts:Array TypeId) (ty:TypeId) (V:World),(Builtin.min_ ts ty #[.int .i64 (r.size:Int),.int .i64 184]).run Tryd.prog V= .ok (.int .i64 (k:Int)) V:=fun ts ty V=>by
    rw[run_min_int2]
    congr 2
    split<;>omega
   have n1:(k:Int)≤(r.size:Int):=by omega
   have n2:(0:Int)≤(k:Int):=by omega
   have n3:(r.extract 0 k).size=k:=by rw[ext_size _ (by omega)];omega
   have kf:=fun V=>ff_any (184-k) V (by omega)
   have HX:=Lib.hid (show str (bodyL r l)=r.extract 0 k++ff (184-k)∧startB r l=false∧stepS r l=(r.extract k r.size,l)from by
    have hs:startB r l=false:=by unfold startB;rw[decide_eq_true hr0,decide_eq_true hl0];simp
    have hl:l=[]:=List.length_eq_zero_iff.1 hl0;refine⟨?_,hs,?_⟩
    ·rw[body_no hs,if_pos (by omega)]
     refine bl_inj ?_;rw[bl_app,ext_bl,bl_str];simp;rw[List.take_of_length_le (by rw[bl_len];omega),List.take_of_length_le (by rw[bl_len];omega),hk];rfl
    ·unfold stepS
     rw[if_neg (by omega),hl,drS];refine congrArg (fun x=>(x,[])) (bl_inj ?_);rw[ext_bl,ext_bl,show r.size-183=0 by omega,show r.size-k=0 by omega,List.take_zero,List.take_zero])
   have n4:((184-k:Nat):Int)=184-(r.size:Int):=by omega
   rw[n4]at kf;have ka:=fun U=>add_at (r.extract 0 k) (ff (184-k)) (by rw[n3,ff_size];omega) U;have hbl2:=Blk.set_ hS.blk 0 (.string (r.extract k r.size));have HB:=Lib.hid hbl2;have t5:decide (0<r.size)=true:=decide_eq_true hr0;have t6:((l.length:Int)==0)=true:=by simp;exact List.length_eq_zero_iff.1 hl0
   clear hS h183 hbl2 hl0 hr0 n4 hk
   go_enter Tryd.func39,Tryd.ntmps39
   go_wp2_with fail
   (with_reducible refine(kf _).mono ?_);rintro e W9 ⟨rfl,hb9⟩
   go_wp2_with fail
   go_ret2
   refine⟨by rw[HX.out.1,HX.out.2.1];rfl,⟨a,c,?_⟩,only_then (only_set (only_refl _ _) 0 _) hb9 (by simp)⟩;rw[HX.out.2.2];exact⟨Blk.below HB.out hb9 (by simpa using hgw),HS.out.seq,HS.out.cap⟩
  ·obtain⟨T,hT⟩: ∃T,tkS 183 r l=T:=⟨_,rfl⟩
   have hTl:T.length≤183:=by rw[←hT];exact tkS_len l 183 r
   have hs:startB r l=true:=by
    unfold startB;rw[decide_eq_false h183];by_cases h0:0<r.size
    ·rw[decide_eq_false (fun e=>hq ⟨h0,e⟩)];simp
    ·rw[decide_eq_false h0];simp
   have hq1:IntKind.u8.wrap (r.size:Int)=(r.size:Int):=by rw[IntKind.wrap_u8];omega
   have hso:strOfNums [(r.size:Int)]=str [UInt8.ofNat r.size]:=by rw[nums_str];rfl
   have HX:=Lib.hid (show str (bodyL r l)=str (UInt8.ofNat r.size::T)++ff (184-(1+T.length))∧startB r l=true∧stepS r l=drS 183 r l∧strOfNums [(r.size:Int)]++str T=str (UInt8.ofNat r.size::T)from by
    refine⟨?_,hs,?_,?_⟩
    ·rw[body_yes hs,hT]
     refine bl_inj ?_;rw[bl_app,bl_str,bl_str];rfl
    ·unfold stepS
     rw[if_neg (by omega)]
    ·rw[hso,str_app];rfl)
   have hsz:(str (UInt8.ofNat r.size::T)).size=1+T.length:=by
    rw[←bl_len,bl_str,List.length_cons];omega
   have hz1:(strOfNums [(r.size:Int)]).size=1:=by rw[hso];rfl
   have hz2:(str T).size=T.length:=rfl;have ka:=fun U=>add_at (strOfNums [(r.size:Int)]) (str T) (by rw[hz1,hz2];omega) U;rw[HX.out.2.2.2]at ka;have kb:=fun U=>add_at (str (UInt8.ofNat r.size::T)) (ff (184-(1+T.length))) (by rw[hsz,ff_size];omega) U;have kf:=fun V=>ff_any (184-(1+T.length)) V (by omega);have n4:((184-(1+T.length):Nat):Int)=184-((str (UInt8.ofNat r.size::T)).size:Int):=by rw[hsz];omega
   rw[n4]at kf;have n7:((str (UInt8.ofNat r.size::T)).size:Int)≤184:=by rw[hsz];omega
   have n8:(0:Int)≤((str (UInt8.ofNat r.size::T)).size:Int):=by omega
   have hbd:Below w0.heap.size w0 w.drew:=below_drewN hb 1;have hSd:Stm w0 w.drew g r l a c:=⟨Blk.drew hS.blk,hS.seq,hS.cap⟩;have k1:=take_any w0 w.drew g 183 r l a c hSd hbd hg (by decide) (by decide);have k2:=take_any w0 ((w.alloc (.cells #[.int .u8 (r.size:Int)] 5)).drew) g 183 r l a c ⟨Blk.drew (Blk.alloc hS.blk _),hS.seq,hS.cap⟩ (below_drewN (hb.alloc hb.size _) 1) hg (by decide) (by decide);rw[hT]at k1 k2;have cA:=conv_blk (V:=(w.alloc (.cells #[.int .u8 (r.size:Int)] 5)).drew) (Blk.drew (Blk.new w 5 #[.int .u8 (r.size:Int)]));have cC:=fun V=>conv_blk (Blk.new V 5 #[.int .u8 (r.size:Int)]);have hN:=Lib.hid (Blk.drew (Blk.new w 5 #[.int .u8 (r.size:Int)]));by_cases h0:0<r.size
   ·have t3:decide ((0:Int)<(r.size:Int))=true:=by simp;omega
    have t5:decide (0<r.size)=true:=decide_eq_true h0;have t4:(l.length==0)=false:=beq_eq_false_iff_ne.2 (fun e=>hq ⟨h0,e⟩);clear hS hq hTl hs hT hsz n4 hSd hbd h0 h183 hso hz1 hz2
    go_enter Tryd.func39,Tryd.ntmps39
    go_wp2_with fail
    go_region_with ((go_at_call 58;first|(refine k1.mono ?_;rintro e w' ⟨rfl,hs',hg'⟩;have hgg:=only_fresh hg')|(refine k2.mono ?_;rintro e w' ⟨rfl,hs',hg'⟩;have cB:=conv_blk (Blk.grown hN.out hg' (by simp;omega));have hgg:=only_trans (only_alloc (only_refl w (some g)) (.cells #[.int .u8 (r.size:Int)] 5)) (only_fresh hg'))))
    all_goals
     go_wp2_with fail
     (with_reducible refine(kf _).mono ?_);rintro e W9 ⟨rfl,hb9⟩
     go_wp2_with fail
     go_ret2
     have hgz:g<w'.heap.size:=Nat.lt_of_lt_of_le hgw hgg.size;obtain⟨a',c',hs''⟩:=hs';refine⟨by rw[HX.out.1,HX.out.2.1];rfl,⟨a',c',?_⟩,?_⟩
     ·rw[HX.out.2.2.1]
      first
       |exact⟨Blk.below hs''.blk hb9 hgz,hs''.seq,hs''.cap⟩
       |exact⟨Blk.below (Blk.alloc hs''.blk _) hb9 (by simp;omega),hs''.seq,hs''.cap⟩
     ·first
       |exact only_then hgg hb9 hgg.size
       |exact only_then (only_alloc hgg _) hb9 (by have:=hgg.size;simp;omega)
   ·have t3:decide ((0:Int)<(r.size:Int))=false:=decide_eq_false (by omega)
    have t5:decide (0<r.size)=false:=decide_eq_false h0;clear hS hq hTl hs hT hsz n4 hSd hbd h0 h183 hso hz1 hz2
    go_enter Tryd.func39,Tryd.ntmps39
    go_wp2_with fail
    go_region_with ((go_at_call 58;first|(refine k1.mono ?_;rintro e w' ⟨rfl,hs',hg'⟩;have hgg:=only_fresh hg')|(refine k2.mono ?_;rintro e w' ⟨rfl,hs',hg'⟩;have cB:=conv_blk (Blk.grown hN.out hg' (by simp;omega));have hgg:=only_trans (only_alloc (only_refl w (some g)) (.cells #[.int .u8 (r.size:Int)] 5)) (only_fresh hg'))))
    all_goals
     go_wp2_with fail
     (with_reducible refine(kf _).mono ?_);rintro e W9 ⟨rfl,hb9⟩
     go_wp2_with fail
     go_ret2
     have hgz:g<w'.heap.size:=Nat.lt_of_lt_of_le hgw hgg.size;obtain⟨a',c',hs''⟩:=hs';refine⟨by rw[HX.out.1,HX.out.2.1];rfl,⟨a',c',?_⟩,?_⟩
     ·rw[HX.out.2.2.1]
      first
       |exact⟨Blk.below hs''.blk hb9 hgz,hs''.seq,hs''.cap⟩
       |exact⟨Blk.below (Blk.alloc hs''.blk _) hb9 (by simp;omega),hs''.seq,hs''.cap⟩
     ·first
       |exact only_then hgg hb9 hgg.size
       |exact only_then (only_alloc hgg _) hb9 (by have:=hgg.size;simp;omega)
end Go.Proofs.YtibjkhepedfpiaaDoor.PaN
