import Derived.Test.YtibjkhepedfpiaaDoorSlPaA
import Derived.Test.YtibjkhepedfpiaaDoorSlPaP
namespace Go.Proofs.YtibjkhepedfpiaaDoor.PaT
open Go Go.RowKit Q Mem Rg Ap St CrB SeEq Scp BlS PaR PaA
theorem only_then {a b c:World} {B:Nat} {row:Option Nat} (h:a.grownBy b row) (k:Below B b c) (hB:a.heap.size≤B):a.grownBy c row:=
 ⟨k.os.trans h.os,k.tape.trans h.tape,k.output.trans h.output,Nat.le_trans h.size k.size,fun i hi hne=>(k.block i (by omega)).trans (h.block i hi hne)⟩
def drS:Nat→ByteArray→List ByteArray→ByteArray×List ByteArray
 |d,r,[]=>(r.extract d r.size,[])
 |d,r,x::t=>if d≤r.size then(r.extract d r.size,x::t)else drS (d-r.size) x t
def tkS:Nat→ByteArray→List ByteArray→List UInt8
 |n,r,[]=>(bl r).take n
 |n,r,x::t=>if n≤r.size then(bl r).take n else bl r++tkS (n-r.size) x t
theorem drS_nil' (m:Nat) (hm:0<m) (x:ByteArray) (t:List ByteArray):drS m nob (x::t)=drS m x t:=by
 rw[drS,if_neg (by show ¬m≤0;omega)];rfl
theorem tkS_nil' (m:Nat) (hm:0<m) (x:ByteArray) (t:List ByteArray):tkS m nob (x::t)=tkS m x t:=by
 rw[tkS,if_neg (by show ¬m≤0;omega)];rfl
theorem step_t {m k:Nat} {r:ByteArray} {l:List ByteArray} (hk:k=r.size) (hm:k<m) (hl:l≠[]):
 tkS m r l=(bl r).take k++tkS (m-k) (r.extract k r.size) l∧drS m r l=drS (m-k) (r.extract k r.size) l:=by
 cases l with
 |nil=>exact absurd rfl hl
 |cons x t=>
  have he:r.extract k r.size=nob:=bl_inj (by rw[ext_bl,show r.size-k=0 by omega];rfl);rw[he,tkS_nil' _ (by omega),drS_nil' _ (by omega),tkS,drS,if_neg (by omega),if_neg (by omega),List.take_of_length_le (by rw[bl_len];omega),hk];exact⟨rfl,rfl⟩
theorem drS_size: ∀(l:List ByteArray) (d:Nat) (r:ByteArray),((drS d r l).1.size,(drS d r l).2.map ByteArray.size)=PaP.dr d r.size (l.map ByteArray.size)
 |[],d,r=>by simp[drS,PaP.dr,ByteArray.size_extract]
 |x::t,d,r=>by
  rw[drS,List.map_cons,PaP.dr]
  split
  ·simp[ByteArray.size_extract]
  ·exact drS_size t (d-r.size) x
theorem drS_in {m:Nat} {r:ByteArray} (h:m≤r.size): ∀l,drS m r l=(r.extract m r.size,l)
 |[]=>rfl
 |x::t=>by rw[drS,if_pos h]
theorem tkS_in {m:Nat} {r:ByteArray} (h:m≤r.size): ∀l,tkS m r l=(bl r).take m
 |[]=>rfl
 |x::t=>by rw[tkS,if_pos h]
theorem isb_lt {B b:Nat} {bs:List Value} {w:World} (h:IsB B b bs w):b<w.heap.size:=by
 rcases h with h|h<;>
 ·obtain⟨hB,v,hbk,hown,hne⟩:=h
  exact(Array.getElem?_eq_some_iff.1 hbk).1
theorem isb_grown {B b g:Nat} {bs:List Value} {w w':World} (h:IsB B b bs w) (hg:w.grownBy w' (some g)) (hgB:g<B) (hbB:B≤b):IsB B b bs w':=by
 have key: ∀p,Lib.BuilderAt 61 5 B b p bs w→Lib.BuilderAt 61 5 B b p bs w':=by
  rintro p ⟨hB,v,hbk,hown,hne⟩;have hlt:b<w.heap.size:=(Array.getElem?_eq_some_iff.1 hbk).1;refine⟨hB,v,(hg.block b hlt (fun e=>by injection e with e;omega)).trans hbk,hown.kept hg ?_,hne⟩
  cases h':v.ownBlock with
  |none=>exact Or.inl rfl
  |some r=>
   have:=(hown.lt r h').1;exact Or.inr (fun e=>by injection e with e;omega)
 rcases h with h|h
 ·exact Or.inl (key _ h)
 ·exact Or.inr (key _ h)
structure Stm (w0 W:World) (g:Nat) (r:ByteArray) (l:List ByteArray) (a:Option Addr) (c:Nat):Prop where
 blk:Blk W g 95 #[.string r,.slice a l.length c]
 seq:Seq enS 1 w0 a l
 cap:l.length≤c
def mu (g:Nat) (W:World):Nat:=match W.cell? ⟨g,0,none⟩,W.cell? ⟨g,1,none⟩with
 |some (.string s),some (.slice _ n _)=>2*n+(if s.size=0 then 0 else 1)
 |_,_=>0
theorem mu_eq {w0 W:World} {g c:Nat} {r:ByteArray} {l:List ByteArray} {a:Option Addr} (h:Stm w0 W g r l a c):mu g W=2*l.length+(if r.size=0 then 0 else 1):=by
 unfold mu;rw[Blk.cell h.blk 0 (v:= .string r) rfl,Blk.cell h.blk 1 (v:= .slice a l.length c) rfl]
def tm (a:Act) (k:Nat):Value:=a.tmps.getD k undef
def frT (g:Nat) (n:Int) (b:Nat) (u:Nat→Value):Act:={tmps:= #[.pointer (some ⟨g,0,none⟩),.int .i64 n,u 2,u 3,.string nob,.pointer (some ⟨b,0,none⟩),u 6,u 7,u 8,u 9,u 10,u 11,u 12,u 13,u 14,u 15,u 16,u 17,u 18,u 19,u 20,u 21,u 22,u 23,u 24,u 25,u 26,u 27,u 28,u 29,u 30,u 31,u 32,u 33,u 34,u 35,u 36,u 37,u 38,u 39,u 40,u 41,u 42,u 43,u 44,u 45,u 46,u 47,u 48,u 49,u 50,u 51,u 52,u 53,u 54,u 55,u 56,u 57,u 58,u 59,u 60,u 61,u 62,u 63,u 64,u 65,u 66,u 67,u 68,u 69,u 70,u 71,u 72,u 73,u 74,u 75,u 76,u 77,u 78,u 79,u 80],defers:=[]}
def J0 (w0 w:World) (g:Nat) (n:Nat) (r0:ByteArray) (l0:List ByteArray) (a:Act) (W:World):Prop:=
 ∃(u:Nat→Value) (r:ByteArray) (l:List ByteArray) (s:Option Addr) (c:Nat) (acc:List UInt8),a=frT g n w.heap.size u∧Stm w0 W g r l s c∧IsB w.heap.size w.heap.size (Lib.byteCells acc) W∧w.grownBy W (some g)∧w.heap.size<W.heap.size∧
  acc.length<n∧acc++tkS (n-acc.length) r l=tkS n r0 l0∧drS (n-acc.length) r l=drS n r0 l0
theorem j0_intro {w0 w W:World} {g n:Nat} {r0 r:ByteArray} {l0 l:List ByteArray} {a:Act} {s:Option Addr} {c:Nat} {acc:List UInt8} (h:a=frT g n w.heap.size (tm a)) (hS:Stm w0 W g r l s c) (hB:IsB w.heap.size w.heap.size (Lib.byteCells acc) W) (hgr:w.grownBy W (some g)) (hlt:w.heap.size<W.heap.size)
 (h1:acc.length<n) (h2:acc++tkS (n-acc.length) r l=tkS n r0 l0) (h3:drS (n-acc.length) r l=drS n r0 l0):J0 w0 w g n r0 l0 a W:=⟨tm a,r,l,s,c,acc,h,hS,hB,hgr,hlt,h1,h2,h3⟩
theorem slice_one (V:World) (b0 o0 m c1:Nat):(Instr.slice 33 (.slice (some ⟨b0,o0,none⟩) (m+1) c1) (some (.int .i64 1)) none none).run Tryd.prog V= .ok (.slice (if c1=1 then some ⟨b0,o0,none⟩else some ⟨b0,o0+1,none⟩) m (c1-1)) V:=by
 have hl:Tryd.prog.underlying 33=some (.slice (Tryd.prog.elem 33)):=by kernel_rfl
 have h1:=run_slice_l (P:=Tryd.prog) (w:=V) (t:=33) (a:=some ⟨b0,o0,none⟩) (len:=m+1) (cap:=c1) (ht:=hl) (kl:= .i64) (l:=1) (h0:=by decide) (h1:=by omega);rw[h1,show Tryd.prog.elem 33=9 by kernel_rfl,Tryd.sizeOf9];simp[Result.andThen,sliced,Addr.add]
theorem any_gen {F:World→Prop} {w:World} (S:World→Prop) (hS:S w) (h: ∀V,S V→F V):F w:=h w hS
set_option maxRecDepth 100000
set_option maxHeartbeats 3200000 in
theorem take_any (w0 w:World) (g n:Nat) (r:ByteArray) (l:List ByteArray) (a:Option Addr) (c:Nat) (hS:Stm w0 w g r l a c) (hb:Below w0.heap.size w0 w) (hg:w0.heap.size≤g) (hn:0<n) (hn2:n≤1000):
 Calls Tryd.prog 58 #[.pointer (some ⟨g,0,none⟩),.int .i64 n] w fun e w'=>e= .returned (.string (St.str (tkS n r l)))∧(∃a' c',Stm w0 w' g (drS n r l).1 (drS n r l).2 a' c')∧w.grownBy w' (some g):=by
 have HS:=Lib.hid hS;have hgw:g<w.heap.size:=hS.blk.lt;clear hS;obtain⟨R,hR⟩: ∃R:Ending→World→Prop,R=(fun e w'=>e= .returned (.string (St.str (tkS n r l)))∧(∃a' c',Stm w0 w' g (drS n r l).1 (drS n r l).2 a' c')∧w.grownBy w' (some g)):=⟨_,rfl⟩;rw[←hR];have HR:=Lib.hid hR;clear hR
 go_enter Tryd.func58,Tryd.ntmps58
 go_wp2_with fail
 refine wp_scope_one 0 (J0 w0 w g n r l) (fun _ W=>mu g W) rfl ?_ ?_
 ·rintro a1 W ⟨u,r1,l1,s1,c1,acc,rfl,hS1,hB,hgr,hlt,hacc,ht,hd⟩
  have HT:=Lib.hid (And.intro ht hd);have hmu:=mu_eq hS1;have e0:=Blk.cell hS1.blk 0 (v:= .string r1) rfl;have e1:=Blk.cell hS1.blk 1 (v:= .slice s1 l1.length c1) rfl;have f0:=Blk.frozen hS1.blk 0;have f1:=Blk.frozen hS1.blk 1;unfold frT;clear ht hd;by_cases h0:r1.size=0
  ·have t0:r1.toList.isEmpty=true:=by rw[isEmpty_iff];simpa using h0
   by_cases hl8:l1.length=0
   ·have t1:decide (0<l1.length)=false:=decide_eq_false (by omega)
    have HMU:=Lib.hid (show l1.length≠0→2*l1.length<mu g W from fun h=>absurd hl8 h);clear hmu hl8 h0;have hcl:(Lib.byteCells acc).length=acc.length:=by simp[Lib.byteCells]
    have kl: ∀p,Calls Tryd.prog 20 #[.pointer (some ⟨w.heap.size,0,none⟩)] (ext W p) fun e w'=>e= .returned (.int .i64 (acc.length:Int))∧ext W p=w':=fun p=>
     (len_any w.heap.size w.heap.size (Lib.byteCells acc) (ext W p) (isb_below hB (below_ext _ p))).mono fun e w' ⟨h1,h2⟩=>⟨by rw[h1,hcl],h2.symm⟩
    obtain⟨m,hm⟩: ∃m,n=acc.length+m:=⟨n-acc.length,by omega⟩;obtain⟨A,hA⟩: ∃A,acc.length=A:=⟨_,rfl⟩;rw[hA]at kl hm hacc HT;obtain⟨k,hk⟩: ∃k,min m r1.size=k:=⟨_,rfl⟩;have hnm:(n:Int)-(A:Int)=(m:Int):=by omega
    have hmn: ∀(ts:Array TypeId) (ty:TypeId) (V:World),(Builtin.min_ ts ty #[.int .i64 ((n:Int)-(A:Int)),.int .i64 (r1.size:Int)]).run Tryd.prog V= .ok (.int .i64 (k:Int)) V:=fun ts ty V=>by
     rw[run_min_int2,hnm]
     congr 2
     split<;>omega
    have x0:=fun pX=>Blk.cell (blk_ext (hS1.blk) pX) 0 (v:= .string r1) rfl;have x1:=fun pX=>Blk.cell (blk_ext (hS1.blk) pX) 1 (v:= .slice s1 l1.length c1) rfl;have n1:(n:Int)≤1000:=by omega
    have n2:(A:Int)<(n:Int):=by omega
    have n3:(0:Int)≤(A:Int):=by omega
    have n4:(0:Int)≤(n:Int):=by omega
    have HK:=Lib.hid hk;have HM:=Lib.hid (And.intro hm (And.intro hA hcl));clear hk hm hA hcl hnm
    go_wp2_with fail
    refine Go.Proofs.YtibjkhepedfpiaaDoor.Q.region_ext (by kernel_rfl) (by kernel_rfl) ?_
    repeat (go_big_quiet_step ((go_at_call 20;refine ext_call_same (kl _))))
    refine wpQuiet_nil ?_;rintro w9 ⟨pq,rfl⟩;clear hmn
    try clear t1
    have hkr:k≤r1.size:=by have:=HK.out;omega
    have hkm:k≤m:=by have:=HK.out;omega
    have hks:(r1.extract 0 k).size=k:=by rw[ext_size _ hkr];omega
    have hxk:bl (r1.extract 0 k)=(bl r1).take k:=by rw[ext_bl];simp
    have n5:(k:Int)≤(r1.size:Int):=by omega
    have n6:(0:Int)≤(k:Int):=by omega
    have kw:=write_any w.heap.size w.heap.size (Lib.byteCells acc) (r1.extract 0 k) (ext W pq) (isb_below hB (below_ext _ pq)) (by have:=HM.out.1;rw[HM.out.2.2,HM.out.2.1,hks];omega) (by have:=(below_ext W pq).size;omega);rw[str_cells,cells_app,hxk]at kw;have hbx:=below_ext W pq
    go_wp2_with fail
    (with_reducible refine(kw).mono ?_);rintro e W1 ⟨rfl,hB1,hb1⟩
    have hbE:Below w.heap.size W W1:=(hbx.mono (by omega)).trans hb1;have hbl1:=Blk.below hS1.blk hbE hgw;have hgr1:w.grownBy W1 (some g):=only_then hgr hbE (Nat.le_refl _);have y0:=Blk.cell hbl1 0 (v:= .string r1) rfl;have y1:=Blk.cell hbl1 1 (v:= .slice s1 l1.length c1) rfl;have g0:=Blk.frozen hbl1 0;have hbl2:=Blk.set_ hbl1 0 (.string (r1.extract k r1.size));have z0:=Blk.cell hbl2 0 (v:= .string (r1.extract k r1.size)) rfl;have z1:=Blk.cell hbl2 1 (v:= .slice s1 l1.length c1) rfl;have hB2:=isb_grown hB1 (only_set (only_refl W1 (some g)) 0 (.string (r1.extract k r1.size))) hgw (Nat.le_refl _);have hsz2:w.heap.size≤(W1.setCell ⟨g,0,none⟩ (.string (r1.extract k r1.size))).heap.size:=by simp;exact hgr1.size
    have hS9:=hS1.seq;have hC9:=hS1.cap;have hal:(acc++(bl r1).take k).length=A+k:=by rw[List.length_append,HM.out.2.1,List.length_take,bl_len,Nat.min_eq_left hkr]
    have hre:(r1.extract k r1.size).size=r1.size-k:=by rw[ByteArray.size_extract];omega
    clear kw kl x0 x1 hks hbx hbE hb1;by_cases hm1:r1.size=k
    ·have t8:(r1.extract k r1.size).toList.isEmpty=true:=by rw[isEmpty_iff,hre];simp;omega
     by_cases hl9:l1.length=0
     ·have t9:decide (0<l1.length)=false:=decide_eq_false (by omega)
      have hl0:l1=[]:=List.length_eq_zero_iff.1 hl9
      have HX:=Lib.hid (show tkS m r1 l1=(bl r1).take k∧drS m r1 l1=(r1.extract k r1.size,l1)from by
       rw[hl0];refine⟨?_,?_⟩
       ·rw[tkS,List.take_of_length_le (by rw[bl_len];omega),List.take_of_length_le (by rw[bl_len];omega)]
       ·rw[drS]
        refine congrArg (fun x=>(x,[])) (bl_inj ?_);rw[ext_bl,ext_bl,show r1.size-m=0 by omega,show r1.size-k=0 by omega,List.take_zero,List.take_zero])
      clear hl0 hre hal hm1;have ks:=str_any w.heap.size w.heap.size (acc++(bl r1).take k) _ hB2 hsz2
      go_wp2_with fail
      (with_reducible refine(ks).mono ?_);rintro e W3 ⟨rfl,hb3⟩
      go_wp2_with fail
      rw[HR.out];have h1:=HT.out.1;have h2:=HT.out.2;rw[show n-A=m by have:=HM.out.1;omega]at h1 h2;rw[HX.out.1]at h1;rw[HX.out.2]at h2;refine⟨?_,⟨s1,c1,?_⟩,only_then (only_set hgr1 0 _) hb3 (Nat.le_refl _)⟩
      ·rw[←h1];rfl
      ·rw[←h2];exact⟨Blk.below hbl2 hb3 hgw,hS9,hC9⟩
     ·have t9:decide (0<l1.length)=true:=decide_eq_true (by omega)
      obtain⟨Z,hZ⟩: ∃Z,A+k=Z:=⟨_,rfl⟩;have HZ:=Lib.hid (show(A+k=Z)∧(acc++(bl r1).take k).length=A+k∧(r1.extract k r1.size).size=0 from⟨hZ,hal,by omega⟩);have kl2:=len_any w.heap.size w.heap.size _ _ hB2;rw[show(Lib.byteCells (acc++(bl r1).take k)).length=Z by rw[Lib.byteCells,List.length_map,hal,hZ]]at kl2;clear hZ;by_cases hm2:k<m
      ·have t10:decide (Z<n)=true:=decide_eq_true (by have:=HM.out.1;have:=HZ.out.1;omega)
       have hk9:k=r1.size:=hm1.symm;have HK9:=Lib.hid hk9;clear hre hal hm1 hk9
       go_wp2_with fail
       (with_reducible refine(kl2).mono ?_);rintro e W9 ⟨rfl,rfl⟩
       go_wp2_with fail
       go_step3
       have hst:=step_t (l:=l1) HK9.out hm2 (fun e=>hl9 (by rw[e];rfl));have hS2:Stm w0 (W1.setCell ⟨g,0,none⟩ (.string (r1.extract k r1.size))) g (r1.extract k r1.size) l1 s1 c1:=⟨hbl2,hS9,hC9⟩;refine⟨rfl,j0_intro (r:=r1.extract k r1.size) (l:=l1) (by kernel_rfl) hS2 hB2 (only_set hgr1 0 _) ?_ ?_ ?_ ?_,?_⟩
       ·exact isb_lt hB2
       ·rw[HZ.out.2.1,HZ.out.1];have:=HM.out.1;have:=HZ.out.1;omega
       ·rw[HZ.out.2.1,HZ.out.1,←HT.out.1,show n-A=m by have:=HM.out.1;omega,hst.1,List.append_assoc,show n-Z=m-k by have:=HM.out.1;have:=HZ.out.1;omega]
       ·rw[HZ.out.2.1,HZ.out.1,←HT.out.2,show n-A=m by have:=HM.out.1;omega,hst.2,show n-Z=m-k by have:=HM.out.1;have:=HZ.out.1;omega]
       ·rw[mu_eq hS2,if_pos HZ.out.2.2]
        exact HMU.out hl9
      ·have t10:decide (Z<n)=false:=decide_eq_false (by have:=HM.out.1;have:=HZ.out.1;omega)
       have HX:=Lib.hid (show tkS m r1 l1=(bl r1).take k∧drS m r1 l1=(r1.extract k r1.size,l1)from by
        rw[show k=m by omega];exact⟨tkS_in (by omega) _,drS_in (by omega) _⟩)
       clear hre hal hm1
       go_wp2_with fail
       (with_reducible refine(kl2).mono ?_);rintro e W9 ⟨rfl,rfl⟩
       have ks:=str_any w.heap.size w.heap.size (acc++(bl r1).take k) _ hB2 hsz2
       go_wp2_with fail
       (with_reducible refine(ks).mono ?_);rintro e W3 ⟨rfl,hb3⟩
       go_wp2_with fail
       rw[HR.out];have h1:=HT.out.1;have h2:=HT.out.2;rw[show n-A=m by have:=HM.out.1;omega]at h1 h2;rw[HX.out.1]at h1;rw[HX.out.2]at h2;refine⟨?_,⟨s1,c1,?_⟩,only_then (only_set hgr1 0 _) hb3 (Nat.le_refl _)⟩
       ·rw[←h1];rfl
       ·rw[←h2];exact⟨Blk.below hbl2 hb3 hgw,hS9,hC9⟩
    ·have t8:(r1.extract k r1.size).toList.isEmpty=false:=by rw[isEmpty_iff,hre];simp;omega
     have HX:=Lib.hid (show tkS m r1 l1=(bl r1).take k∧drS m r1 l1=(r1.extract k r1.size,l1)from by
      rw[show k=m by have:=HK.out;omega];exact⟨tkS_in (by have:=HK.out;omega) _,drS_in (by have:=HK.out;omega) _⟩)
     clear hre hal;have ks:=str_any w.heap.size w.heap.size (acc++(bl r1).take k) _ hB2 hsz2
     go_wp2_with fail
     (with_reducible refine(ks).mono ?_);rintro e W3 ⟨rfl,hb3⟩
     go_wp2_with fail
     rw[HR.out];have h1:=HT.out.1;have h2:=HT.out.2;rw[show n-A=m by have:=HM.out.1;omega]at h1 h2;rw[HX.out.1]at h1;rw[HX.out.2]at h2;refine⟨?_,⟨s1,c1,?_⟩,only_then (only_set hgr1 0 _) hb3 (Nat.le_refl _)⟩
     ·rw[←h1];rfl
     ·rw[←h2];exact⟨Blk.below hbl2 hb3 hgw,hS9,hC9⟩
   ·have t1:decide (0<l1.length)=true:=decide_eq_true (by omega)
    obtain⟨x,t,rfl⟩: ∃x t,l1=x::t:=by
     cases l1 with
     |nil=>exact absurd rfl hl8
     |cons x t=>exact⟨x,t,rfl⟩
    obtain⟨b0,o0,rfl,hlt0,hc0⟩:=(hS1.seq.below (Nat.le_refl _) (hb.trans (below_of_only hgr (by have:=hb.size;omega) (fun k hk=>by injection hk with hk;omega)))) 0 x rfl;have q0:W.drew.cell? ⟨b0,o0,none⟩=some (.string x):=hc0 0 _ rfl;have hc1:t.length+1≤c1:=hS1.cap;obtain⟨s2,hs2⟩: ∃s2:Option Addr,(if c1=1 then some (⟨b0,o0,none⟩:Addr)else some ⟨b0,o0+1,none⟩)=s2:=⟨_,rfl⟩
    have hsl: ∀V,(Instr.slice 33 (.slice (some ⟨b0,o0,none⟩) (t.length+1) c1) (some (.int .i64 1)) none none).run Tryd.prog V= .ok (.slice s2 t.length (c1-1)) V:=fun V=>by
     rw[←hs2];exact slice_one V b0 o0 t.length c1
    have hS3:Seq enS 1 w0 s2 t:=fun i y hi=>by
     obtain⟨b1,o1,e1,hlt1,hc⟩:=hS1.seq (i+1) y hi;injection e1 with e1
     injection e1 with e1 e2 _
     subst e1 e2
     have hne: ¬c1=1:=fun e=>by
      have:=(List.getElem?_eq_some_iff.1 hi).1;omega
     refine⟨b0,o0+1,by rw[←hs2,if_neg hne],hlt1,fun j u hj=>?_⟩;have:=hc j u hj;rw[show o0+off 1 (i+1)+j=o0+1+off 1 i+j by unfold off;simp;omega]at this;exact this
    have k0:(0:Int)<((t.length:Int)+1):=by omega
    have hD:=Blk.drew hS1.blk;have d0:=Blk.cell hD 0 (v:= .string r1) rfl;have d1:=Blk.cell hD 1 (v:= .slice (some ⟨b0,o0,none⟩) (t.length+1) c1) rfl;have g0:=Blk.frozen hD 0;have g1:=Blk.frozen hD 1;have hD1:=Blk.set_ hD 0 (.string x);have p1:=Blk.cell hD1 1 (v:= .slice (some ⟨b0,o0,none⟩) (t.length+1) c1) rfl;have p2:=Blk.frozen hD1 1;have hD2:=Blk.set_ hD 1 (.slice s2 t.length (c1-1));have p3:=Blk.cell hD2 0 (v:= .string r1) rfl;have p4:=Blk.frozen hD2 0;have HS1:=Lib.hid hS1;have hD9:=Lib.hid (Blk.set_ (Blk.set_ hS1.blk 0 (.string x)) 1 (.slice s2 t.length (c1-1)));have hr1:r1=nob:=bl_inj (List.eq_nil_of_length_eq_zero h0)
    have HT2:=Lib.hid (show acc++tkS (n-acc.length) x t=tkS n r l∧drS (n-acc.length) x t=drS n r l from by
     have h1:=HT.out.1;have h2:=HT.out.2;rw[hr1,tkS_nil' _ (by omega)]at h1;rw[hr1,drS_nil' _ (by omega)]at h2;exact⟨h1,h2⟩)
    have HMU:=Lib.hid (show t.length≠0→2*t.length<mu g W from fun _=>by rw[hmu];simp;omega);clear hc0 hS1 hmu hl8 h0 hr1 HT
    go_wp2_with fail
    go_region
    have hB7:=isb_grown hB (only_set (only_set (only_refl W (some g)) 0 (.string x)) 1 (.slice s2 t.length (c1-1))) hgw (Nat.le_refl _);refine any_gen (F:=fun V=>Exit.then _ _ Exit.normal _ V) (fun V=>Stm w0 V g x t s2 (c1-1)∧IsB w.heap.size w.heap.size (Lib.byteCells acc) V∧w.grownBy V (some g)∧w.heap.size<V.heap.size) ⟨⟨hD9.out,hS3,by omega⟩,isb_below hB7 (below_drewN (Below.refl _ _) 1),only_drew (only_set (only_set hgr 0 _) 1 _),by simp;exact hlt⟩ ?_;rintro W5 ⟨hS5,hB5,hgr5,hlt5⟩;clear hS3 hB7 hB hgr hlt t0 t1 hD9 hsl hs2 e0 e1 f0 f1;have HT:=Lib.hid HT2.out;clear HT2;have hcl:(Lib.byteCells acc).length=acc.length:=by simp[Lib.byteCells]
    have kl: ∀p,Calls Tryd.prog 20 #[.pointer (some ⟨w.heap.size,0,none⟩)] (ext W5 p) fun e w'=>e= .returned (.int .i64 (acc.length:Int))∧ext W5 p=w':=fun p=>
     (len_any w.heap.size w.heap.size (Lib.byteCells acc) (ext W5 p) (isb_below hB5 (below_ext _ p))).mono fun e w' ⟨h1,h2⟩=>⟨by rw[h1,hcl],h2.symm⟩
    obtain⟨m,hm⟩: ∃m,n=acc.length+m:=⟨n-acc.length,by omega⟩;obtain⟨A,hA⟩: ∃A,acc.length=A:=⟨_,rfl⟩;rw[hA]at kl hm hacc HT;obtain⟨k,hk⟩: ∃k,min m x.size=k:=⟨_,rfl⟩;have hnm:(n:Int)-(A:Int)=(m:Int):=by omega
    have hmn: ∀(ts:Array TypeId) (ty:TypeId) (V:World),(Builtin.min_ ts ty #[.int .i64 ((n:Int)-(A:Int)),.int .i64 (x.size:Int)]).run Tryd.prog V= .ok (.int .i64 (k:Int)) V:=fun ts ty V=>by
     rw[run_min_int2,hnm]
     congr 2
     split<;>omega
    have x0:=fun pX=>Blk.cell (blk_ext (hS5.blk) pX) 0 (v:= .string x) rfl;have x1:=fun pX=>Blk.cell (blk_ext (hS5.blk) pX) 1 (v:= .slice s2 t.length (c1-1)) rfl;have n1:(n:Int)≤1000:=by omega
    have n2:(A:Int)<(n:Int):=by omega
    have n3:(0:Int)≤(A:Int):=by omega
    have n4:(0:Int)≤(n:Int):=by omega
    have HK:=Lib.hid hk;have HM:=Lib.hid (And.intro hm (And.intro hA hcl));clear hk hm hA hcl hnm
    go_wp2_with fail
    refine Go.Proofs.YtibjkhepedfpiaaDoor.Q.region_ext (by kernel_rfl) (by kernel_rfl) ?_
    repeat (go_big_quiet_step ((go_at_call 20;refine ext_call_same (kl _))))
    refine wpQuiet_nil ?_;rintro w9 ⟨pq,rfl⟩;clear hmn
    try clear t1
    have hkr:k≤x.size:=by have:=HK.out;omega
    have hkm:k≤m:=by have:=HK.out;omega
    have hks:(x.extract 0 k).size=k:=by rw[ext_size _ hkr];omega
    have hxk:bl (x.extract 0 k)=(bl x).take k:=by rw[ext_bl];simp
    have n5:(k:Int)≤(x.size:Int):=by omega
    have n6:(0:Int)≤(k:Int):=by omega
    have kw:=write_any w.heap.size w.heap.size (Lib.byteCells acc) (x.extract 0 k) (ext W5 pq) (isb_below hB5 (below_ext _ pq)) (by have:=HM.out.1;rw[HM.out.2.2,HM.out.2.1,hks];omega) (by have:=(below_ext W5 pq).size;omega);rw[str_cells,cells_app,hxk]at kw;have hbx:=below_ext W5 pq
    go_wp2_with fail
    (with_reducible refine(kw).mono ?_);rintro e W1 ⟨rfl,hB1,hb1⟩
    have hbE:Below w.heap.size W5 W1:=(hbx.mono (by omega)).trans hb1;have hbl1:=Blk.below hS5.blk hbE hgw;have hgr1:w.grownBy W1 (some g):=only_then hgr5 hbE (Nat.le_refl _);have y0:=Blk.cell hbl1 0 (v:= .string x) rfl;have y1:=Blk.cell hbl1 1 (v:= .slice s2 t.length (c1-1)) rfl;have g0:=Blk.frozen hbl1 0;have hbl2:=Blk.set_ hbl1 0 (.string (x.extract k x.size));have z0:=Blk.cell hbl2 0 (v:= .string (x.extract k x.size)) rfl;have z1:=Blk.cell hbl2 1 (v:= .slice s2 t.length (c1-1)) rfl;have hB2:=isb_grown hB1 (only_set (only_refl W1 (some g)) 0 (.string (x.extract k x.size))) hgw (Nat.le_refl _);have hsz2:w.heap.size≤(W1.setCell ⟨g,0,none⟩ (.string (x.extract k x.size))).heap.size:=by simp;exact hgr1.size
    have hS9:=hS5.seq;have hC9:=hS5.cap;have hal:(acc++(bl x).take k).length=A+k:=by rw[List.length_append,HM.out.2.1,List.length_take,bl_len,Nat.min_eq_left hkr]
    have hre:(x.extract k x.size).size=x.size-k:=by rw[ByteArray.size_extract];omega
    clear kw kl x0 x1 hks hbx hbE hb1;by_cases hm1:x.size=k
    ·have t8:(x.extract k x.size).toList.isEmpty=true:=by rw[isEmpty_iff,hre];simp;omega
     by_cases hl9:t.length=0
     ·have t9:decide (0<t.length)=false:=decide_eq_false (by omega)
      have hl0:t=[]:=List.length_eq_zero_iff.1 hl9
      have HX:=Lib.hid (show tkS m x t=(bl x).take k∧drS m x t=(x.extract k x.size,t)from by
       rw[hl0];refine⟨?_,?_⟩
       ·rw[tkS,List.take_of_length_le (by rw[bl_len];omega),List.take_of_length_le (by rw[bl_len];omega)]
       ·rw[drS]
        refine congrArg (fun x=>(x,[])) (bl_inj ?_);rw[ext_bl,ext_bl,show x.size-m=0 by omega,show x.size-k=0 by omega,List.take_zero,List.take_zero])
      clear hl0 hre hal hm1;have ks:=str_any w.heap.size w.heap.size (acc++(bl x).take k) _ hB2 hsz2
      go_wp2_with fail
      (with_reducible refine(ks).mono ?_);rintro e W3 ⟨rfl,hb3⟩
      go_wp2_with fail
      rw[HR.out];have h1:=HT.out.1;have h2:=HT.out.2;rw[show n-A=m by have:=HM.out.1;omega]at h1 h2;rw[HX.out.1]at h1;rw[HX.out.2]at h2;refine⟨?_,⟨s2,(c1-1),?_⟩,only_then (only_set hgr1 0 _) hb3 (Nat.le_refl _)⟩
      ·rw[←h1];rfl
      ·rw[←h2];exact⟨Blk.below hbl2 hb3 hgw,hS9,hC9⟩
     ·have t9:decide (0<t.length)=true:=decide_eq_true (by omega)
      obtain⟨Z,hZ⟩: ∃Z,A+k=Z:=⟨_,rfl⟩;have HZ:=Lib.hid (show(A+k=Z)∧(acc++(bl x).take k).length=A+k∧(x.extract k x.size).size=0 from⟨hZ,hal,by omega⟩);have kl2:=len_any w.heap.size w.heap.size _ _ hB2;rw[show(Lib.byteCells (acc++(bl x).take k)).length=Z by rw[Lib.byteCells,List.length_map,hal,hZ]]at kl2;clear hZ;by_cases hm2:k<m
      ·have t10:decide (Z<n)=true:=decide_eq_true (by have:=HM.out.1;have:=HZ.out.1;omega)
       have hk9:k=x.size:=hm1.symm;have HK9:=Lib.hid hk9;clear hre hal hm1 hk9
       go_wp2_with fail
       (with_reducible refine(kl2).mono ?_);rintro e W9 ⟨rfl,rfl⟩
       go_wp2_with fail
       go_step3
       have hst:=step_t (l:=t) HK9.out hm2 (fun e=>hl9 (by rw[e];rfl));have hS2:Stm w0 (W1.setCell ⟨g,0,none⟩ (.string (x.extract k x.size))) g (x.extract k x.size) t s2 (c1-1):=⟨hbl2,hS9,hC9⟩;refine⟨rfl,j0_intro (r:=x.extract k x.size) (l:=t) (by kernel_rfl) hS2 hB2 (only_set hgr1 0 _) ?_ ?_ ?_ ?_,?_⟩
       ·exact isb_lt hB2
       ·rw[HZ.out.2.1,HZ.out.1];have:=HM.out.1;have:=HZ.out.1;omega
       ·rw[HZ.out.2.1,HZ.out.1,←HT.out.1,show n-A=m by have:=HM.out.1;omega,hst.1,List.append_assoc,show n-Z=m-k by have:=HM.out.1;have:=HZ.out.1;omega]
       ·rw[HZ.out.2.1,HZ.out.1,←HT.out.2,show n-A=m by have:=HM.out.1;omega,hst.2,show n-Z=m-k by have:=HM.out.1;have:=HZ.out.1;omega]
       ·rw[mu_eq hS2,if_pos HZ.out.2.2]
        exact HMU.out hl9
      ·have t10:decide (Z<n)=false:=decide_eq_false (by have:=HM.out.1;have:=HZ.out.1;omega)
       have HX:=Lib.hid (show tkS m x t=(bl x).take k∧drS m x t=(x.extract k x.size,t)from by
        rw[show k=m by omega];exact⟨tkS_in (by omega) _,drS_in (by omega) _⟩)
       clear hre hal hm1
       go_wp2_with fail
       (with_reducible refine(kl2).mono ?_);rintro e W9 ⟨rfl,rfl⟩
       have ks:=str_any w.heap.size w.heap.size (acc++(bl x).take k) _ hB2 hsz2
       go_wp2_with fail
       (with_reducible refine(ks).mono ?_);rintro e W3 ⟨rfl,hb3⟩
       go_wp2_with fail
       rw[HR.out];have h1:=HT.out.1;have h2:=HT.out.2;rw[show n-A=m by have:=HM.out.1;omega]at h1 h2;rw[HX.out.1]at h1;rw[HX.out.2]at h2;refine⟨?_,⟨s2,(c1-1),?_⟩,only_then (only_set hgr1 0 _) hb3 (Nat.le_refl _)⟩
       ·rw[←h1];rfl
       ·rw[←h2];exact⟨Blk.below hbl2 hb3 hgw,hS9,hC9⟩
    ·have t8:(x.extract k x.size).toList.isEmpty=false:=by rw[isEmpty_iff,hre];simp;omega
     have HX:=Lib.hid (show tkS m x t=(bl x).take k∧drS m x t=(x.extract k x.size,t)from by
      rw[show k=m by have:=HK.out;omega];exact⟨tkS_in (by have:=HK.out;omega) _,drS_in (by have:=HK.out;omega) _⟩)
     clear hre hal;have ks:=str_any w.heap.size w.heap.size (acc++(bl x).take k) _ hB2 hsz2
     go_wp2_with fail
     (with_reducible refine(ks).mono ?_);rintro e W3 ⟨rfl,hb3⟩
     go_wp2_with fail
     rw[HR.out];have h1:=HT.out.1;have h2:=HT.out.2;rw[show n-A=m by have:=HM.out.1;omega]at h1 h2;rw[HX.out.1]at h1;rw[HX.out.2]at h2;refine⟨?_,⟨s2,(c1-1),?_⟩,only_then (only_set hgr1 0 _) hb3 (Nat.le_refl _)⟩
     ·rw[←h1];rfl
     ·rw[←h2];exact⟨Blk.below hbl2 hb3 hgw,hS9,hC9⟩
  ·have t0:r1.toList.isEmpty=false:=by rw[isEmpty_iff];simpa using h0
   have HMU:=Lib.hid (show l1.length≠0→2*l1.length<mu g W from fun _=>by rw[hmu,if_neg h0];omega);clear hmu h0;have hcl:(Lib.byteCells acc).length=acc.length:=by simp[Lib.byteCells]
   have kl: ∀p,Calls Tryd.prog 20 #[.pointer (some ⟨w.heap.size,0,none⟩)] (ext W p) fun e w'=>e= .returned (.int .i64 (acc.length:Int))∧ext W p=w':=fun p=>
    (len_any w.heap.size w.heap.size (Lib.byteCells acc) (ext W p) (isb_below hB (below_ext _ p))).mono fun e w' ⟨h1,h2⟩=>⟨by rw[h1,hcl],h2.symm⟩
   obtain⟨m,hm⟩: ∃m,n=acc.length+m:=⟨n-acc.length,by omega⟩;obtain⟨A,hA⟩: ∃A,acc.length=A:=⟨_,rfl⟩;rw[hA]at kl hm hacc HT;obtain⟨k,hk⟩: ∃k,min m r1.size=k:=⟨_,rfl⟩;have hnm:(n:Int)-(A:Int)=(m:Int):=by omega
   have hmn: ∀(ts:Array TypeId) (ty:TypeId) (V:World),(Builtin.min_ ts ty #[.int .i64 ((n:Int)-(A:Int)),.int .i64 (r1.size:Int)]).run Tryd.prog V= .ok (.int .i64 (k:Int)) V:=fun ts ty V=>by
    rw[run_min_int2,hnm]
    congr 2
    split<;>omega
   have x0:=fun pX=>Blk.cell (blk_ext (hS1.blk) pX) 0 (v:= .string r1) rfl;have x1:=fun pX=>Blk.cell (blk_ext (hS1.blk) pX) 1 (v:= .slice s1 l1.length c1) rfl;have n1:(n:Int)≤1000:=by omega
   have n2:(A:Int)<(n:Int):=by omega
   have n3:(0:Int)≤(A:Int):=by omega
   have n4:(0:Int)≤(n:Int):=by omega
   have HK:=Lib.hid hk;have HM:=Lib.hid (And.intro hm (And.intro hA hcl));clear hk hm hA hcl hnm
   go_wp2_with fail
   refine Go.Proofs.YtibjkhepedfpiaaDoor.Q.region_ext (by kernel_rfl) (by kernel_rfl) ?_
   repeat (go_big_quiet_step ((go_at_call 20;refine ext_call_same (kl _))))
   refine wpQuiet_nil ?_;rintro w9 ⟨pq,rfl⟩;clear hmn
   try clear t1
   have hkr:k≤r1.size:=by have:=HK.out;omega
   have hkm:k≤m:=by have:=HK.out;omega
   have hks:(r1.extract 0 k).size=k:=by rw[ext_size _ hkr];omega
   have hxk:bl (r1.extract 0 k)=(bl r1).take k:=by rw[ext_bl];simp
   have n5:(k:Int)≤(r1.size:Int):=by omega
   have n6:(0:Int)≤(k:Int):=by omega
   have kw:=write_any w.heap.size w.heap.size (Lib.byteCells acc) (r1.extract 0 k) (ext W pq) (isb_below hB (below_ext _ pq)) (by have:=HM.out.1;rw[HM.out.2.2,HM.out.2.1,hks];omega) (by have:=(below_ext W pq).size;omega);rw[str_cells,cells_app,hxk]at kw;have hbx:=below_ext W pq
   go_wp2_with fail
   (with_reducible refine(kw).mono ?_);rintro e W1 ⟨rfl,hB1,hb1⟩
   have hbE:Below w.heap.size W W1:=(hbx.mono (by omega)).trans hb1;have hbl1:=Blk.below hS1.blk hbE hgw;have hgr1:w.grownBy W1 (some g):=only_then hgr hbE (Nat.le_refl _);have y0:=Blk.cell hbl1 0 (v:= .string r1) rfl;have y1:=Blk.cell hbl1 1 (v:= .slice s1 l1.length c1) rfl;have g0:=Blk.frozen hbl1 0;have hbl2:=Blk.set_ hbl1 0 (.string (r1.extract k r1.size));have z0:=Blk.cell hbl2 0 (v:= .string (r1.extract k r1.size)) rfl;have z1:=Blk.cell hbl2 1 (v:= .slice s1 l1.length c1) rfl;have hB2:=isb_grown hB1 (only_set (only_refl W1 (some g)) 0 (.string (r1.extract k r1.size))) hgw (Nat.le_refl _);have hsz2:w.heap.size≤(W1.setCell ⟨g,0,none⟩ (.string (r1.extract k r1.size))).heap.size:=by simp;exact hgr1.size
   have hS9:=hS1.seq;have hC9:=hS1.cap;have hal:(acc++(bl r1).take k).length=A+k:=by rw[List.length_append,HM.out.2.1,List.length_take,bl_len,Nat.min_eq_left hkr]
   have hre:(r1.extract k r1.size).size=r1.size-k:=by rw[ByteArray.size_extract];omega
   clear kw kl x0 x1 hks hbx hbE hb1;by_cases hm1:r1.size=k
   ·have t8:(r1.extract k r1.size).toList.isEmpty=true:=by rw[isEmpty_iff,hre];simp;omega
    by_cases hl9:l1.length=0
    ·have t9:decide (0<l1.length)=false:=decide_eq_false (by omega)
     have hl0:l1=[]:=List.length_eq_zero_iff.1 hl9
     have HX:=Lib.hid (show tkS m r1 l1=(bl r1).take k∧drS m r1 l1=(r1.extract k r1.size,l1)from by
      rw[hl0];refine⟨?_,?_⟩
      ·rw[tkS,List.take_of_length_le (by rw[bl_len];omega),List.take_of_length_le (by rw[bl_len];omega)]
      ·rw[drS]
       refine congrArg (fun x=>(x,[])) (bl_inj ?_);rw[ext_bl,ext_bl,show r1.size-m=0 by omega,show r1.size-k=0 by omega,List.take_zero,List.take_zero])
     clear hl0 hre hal hm1;have ks:=str_any w.heap.size w.heap.size (acc++(bl r1).take k) _ hB2 hsz2
     go_wp2_with fail
     (with_reducible refine(ks).mono ?_);rintro e W3 ⟨rfl,hb3⟩
     go_wp2_with fail
     rw[HR.out];have h1:=HT.out.1;have h2:=HT.out.2;rw[show n-A=m by have:=HM.out.1;omega]at h1 h2;rw[HX.out.1]at h1;rw[HX.out.2]at h2;refine⟨?_,⟨s1,c1,?_⟩,only_then (only_set hgr1 0 _) hb3 (Nat.le_refl _)⟩
     ·rw[←h1];rfl
     ·rw[←h2];exact⟨Blk.below hbl2 hb3 hgw,hS9,hC9⟩
    ·have t9:decide (0<l1.length)=true:=decide_eq_true (by omega)
     obtain⟨Z,hZ⟩: ∃Z,A+k=Z:=⟨_,rfl⟩;have HZ:=Lib.hid (show(A+k=Z)∧(acc++(bl r1).take k).length=A+k∧(r1.extract k r1.size).size=0 from⟨hZ,hal,by omega⟩);have kl2:=len_any w.heap.size w.heap.size _ _ hB2;rw[show(Lib.byteCells (acc++(bl r1).take k)).length=Z by rw[Lib.byteCells,List.length_map,hal,hZ]]at kl2;clear hZ;by_cases hm2:k<m
     ·have t10:decide (Z<n)=true:=decide_eq_true (by have:=HM.out.1;have:=HZ.out.1;omega)
      have hk9:k=r1.size:=hm1.symm;have HK9:=Lib.hid hk9;clear hre hal hm1 hk9
      go_wp2_with fail
      (with_reducible refine(kl2).mono ?_);rintro e W9 ⟨rfl,rfl⟩
      go_wp2_with fail
      go_step3
      have hst:=step_t (l:=l1) HK9.out hm2 (fun e=>hl9 (by rw[e];rfl));have hS2:Stm w0 (W1.setCell ⟨g,0,none⟩ (.string (r1.extract k r1.size))) g (r1.extract k r1.size) l1 s1 c1:=⟨hbl2,hS9,hC9⟩;refine⟨rfl,j0_intro (r:=r1.extract k r1.size) (l:=l1) (by kernel_rfl) hS2 hB2 (only_set hgr1 0 _) ?_ ?_ ?_ ?_,?_⟩
      ·exact isb_lt hB2
      ·rw[HZ.out.2.1,HZ.out.1];have:=HM.out.1;have:=HZ.out.1;omega
      ·rw[HZ.out.2.1,HZ.out.1,←HT.out.1,show n-A=m by have:=HM.out.1;omega,hst.1,List.append_assoc,show n-Z=m-k by have:=HM.out.1;have:=HZ.out.1;omega]
      ·rw[HZ.out.2.1,HZ.out.1,←HT.out.2,show n-A=m by have:=HM.out.1;omega,hst.2,show n-Z=m-k by have:=HM.out.1;have:=HZ.out.1;omega]
      ·rw[mu_eq hS2,if_pos HZ.out.2.2]
       exact HMU.out hl9
     ·have t10:decide (Z<n)=false:=decide_eq_false (by have:=HM.out.1;have:=HZ.out.1;omega)
      have HX:=Lib.hid (show tkS m r1 l1=(bl r1).take k∧drS m r1 l1=(r1.extract k r1.size,l1)from by
       rw[show k=m by omega];exact⟨tkS_in (by omega) _,drS_in (by omega) _⟩)
      clear hre hal hm1
      go_wp2_with fail
      (with_reducible refine(kl2).mono ?_);rintro e W9 ⟨rfl,rfl⟩
      have ks:=str_any w.heap.size w.heap.size (acc++(bl r1).take k) _ hB2 hsz2
      go_wp2_with fail
      (with_reducible refine(ks).mono ?_);rintro e W3 ⟨rfl,hb3⟩
      go_wp2_with fail
      rw[HR.out];have h1:=HT.out.1;have h2:=HT.out.2;rw[show n-A=m by have:=HM.out.1;omega]at h1 h2;rw[HX.out.1]at h1;rw[HX.out.2]at h2;refine⟨?_,⟨s1,c1,?_⟩,only_then (only_set hgr1 0 _) hb3 (Nat.le_refl _)⟩
      ·rw[←h1];rfl
      ·rw[←h2];exact⟨Blk.below hbl2 hb3 hgw,hS9,hC9⟩
   ·have t8:(r1.extract k r1.size).toList.isEmpty=false:=by rw[isEmpty_iff,hre];simp;omega
    have HX:=Lib.hid (show tkS m r1 l1=(bl r1).take k∧drS m r1 l1=(r1.extract k r1.size,l1)from by
     rw[show k=m by have:=HK.out;omega];exact⟨tkS_in (by have:=HK.out;omega) _,drS_in (by have:=HK.out;omega) _⟩)
    clear hre hal;have ks:=str_any w.heap.size w.heap.size (acc++(bl r1).take k) _ hB2 hsz2
    go_wp2_with fail
    (with_reducible refine(ks).mono ?_);rintro e W3 ⟨rfl,hb3⟩
    go_wp2_with fail
    rw[HR.out];have h1:=HT.out.1;have h2:=HT.out.2;rw[show n-A=m by have:=HM.out.1;omega]at h1 h2;rw[HX.out.1]at h1;rw[HX.out.2]at h2;refine⟨?_,⟨s1,c1,?_⟩,only_then (only_set hgr1 0 _) hb3 (Nat.le_refl _)⟩
    ·rw[←h1];rfl
    ·rw[←h2];exact⟨Blk.below hbl2 hb3 hgw,hS9,hC9⟩
 ·intro b0
  go_wp2_with fail
  go_step3
  rename_i hK;refine hK _ _ ?_;have hI:IsB w.heap.size w.heap.size (Lib.byteCells []) (w.alloc (.cells #[.pointer none,.slice none 0 0] 61)):=Lib.fresh_isBuilder 61 5 w;exact b0 _ _ (j0_intro (r:=r) (l:=l) (acc:=[]) (by kernel_rfl) ⟨Blk.alloc HS.out.blk _,HS.out.seq,HS.out.cap⟩ hI (only_alloc (only_refl _ _) _) (by simp) hn (by simp) (by simp))
end Go.Proofs.YtibjkhepedfpiaaDoor.PaT
