import Derived.Test.YtdbpkhnmhddmmaaGreatDoorRnJnC
import Derived.Test.YtdbpkhnmhddmmaaGreatDoorRnPkU
import Derived.Deep.Cut
import Derived.Deep.CutRange
namespace Go.Proofs.YtdbpkhnmhddmmaaGreatDoor.JnD
open Go Go.RowKit Q Mem Rg Ap St BiW BiH SeG SeEq CrB TbM JnP JnA JnB JnC
def pkV (p:Pk):Array Value:= #[.int .i64 p.pid,.bool p.start,.int .i64 p.count,.bool p.bad,.string p.body]
set_option maxRecDepth 100000
theorem pcheck_any (p:Pk) (w:World):Calls Tryz.prog 68 #[.agg (pkV p)] w fun e w'=>e= .returned (.int .i64 (pkE p))∧Below w.heap.size w w':=by
 obtain⟨pid,start,count,bad,body⟩:=p;have HX:Hid (pkE ⟨pid,start,count,bad,body⟩=if pid<0∨8192≤pid∨count<0∨15<count then 15 else if 184<body.size then 17 else 0):=Lib.hid rfl;unfold pkV;dsimp only at HX ⊢;have HB:=Lib.hid (bk1 w 80 #[.int .i64 pid,.bool start,.int .i64 count,.bool bad,.string body]);have c0:=Blk.cell (HB.out.nth 0 rfl) 0 (v:= .int .i64 pid) rfl;have c1:=Blk.cell (HB.out.nth 0 rfl) 1 (v:= .bool start) rfl;have c2:=Blk.cell (HB.out.nth 0 rfl) 2 (v:= .int .i64 count) rfl;have c3:=Blk.cell (HB.out.nth 0 rfl) 3 (v:= .bool bad) rfl;have c4:=Blk.cell (HB.out.nth 0 rfl) 4 (v:= .string body) rfl;obtain⟨X,hX⟩: ∃X,pkE ⟨pid,start,count,bad,body⟩=X:=⟨_,rfl⟩;rw[hX]at HX ⊢;clear hX;by_cases h1:pid<0
 ·have t1:decide (pid<0)=true:=decide_eq_true h1
  replace HX:Hid (X=15):=Lib.hid (by rw[HX.out,if_pos (by omega)]);clear h1
  go_enter Tryz.func68,Tryz.ntmps68
  go_wp2_with fail
  go_ret;exact⟨by rw[HX.out];rfl,HB.out.be⟩
 have t1:decide (pid<0)=false:=decide_eq_false h1;by_cases h2:8192≤pid
 ·have t2:decide (8192≤pid)=true:=decide_eq_true h2
  replace HX:Hid (X=15):=Lib.hid (by rw[HX.out,if_pos (by omega)]);clear h1 h2
  go_enter Tryz.func68,Tryz.ntmps68
  go_wp2_with fail
  go_ret;exact⟨by rw[HX.out];rfl,HB.out.be⟩
 have t2:decide (8192≤pid)=false:=decide_eq_false h2;by_cases h3:count<0
 ·have t3:decide (count<0)=true:=decide_eq_true h3
  replace HX:Hid (X=15):=Lib.hid (by rw[HX.out,if_pos (by omega)]);clear h1 h2 h3
  go_enter Tryz.func68,Tryz.ntmps68
  go_wp2_with fail
  go_ret;exact⟨by rw[HX.out];rfl,HB.out.be⟩
 have t3:decide (count<0)=false:=decide_eq_false h3;by_cases h4:15<count
 ·have t4:decide (15<count)=true:=decide_eq_true h4
  replace HX:Hid (X=15):=Lib.hid (by rw[HX.out,if_pos (by omega)]);clear h1 h2 h3 h4
  go_enter Tryz.func68,Tryz.ntmps68
  go_wp2_with fail
  go_ret;exact⟨by rw[HX.out];rfl,HB.out.be⟩
 have t4:decide (15<count)=false:=decide_eq_false h4;by_cases h5:184<body.size
 ·have t5:decide ((184:Int)<(body.size:Int))=true:=decide_eq_true (by omega)
  have t5':decide (184<body.size)=true:=decide_eq_true h5;replace HX:Hid (X=17):=Lib.hid (by rw[HX.out,if_neg (by omega),if_pos h5]);clear h1 h2 h3 h4 h5
  go_enter Tryz.func68,Tryz.ntmps68
  go_wp2_with fail
  go_ret;exact⟨by rw[HX.out];rfl,HB.out.be⟩
 ·have t5:decide ((184:Int)<(body.size:Int))=false:=decide_eq_false (by omega)
  have t5':decide (184<body.size)=false:=decide_eq_false h5;replace HX:Hid (X=0):=Lib.hid (by rw[HX.out,if_neg (by omega),if_neg h5]);clear h1 h2 h3 h4 h5
  go_enter Tryz.func68,Tryz.ntmps68
  go_wp2_with fail
  go_ret;exact⟨by rw[HX.out];rfl,HB.out.be⟩
theorem eqSi (a b:Int) (x y:ByteArray) (w:World):(Op.equalIn 10000 84 (.agg #[.int .i64 a,.string x]) (.agg #[.int .i64 b,.string y])).run Tryz.prog w= .ok (decide (a=b∧x=y)) w:=by
 have hS:Tryz.prog.underlying 84=some (.struct (Tryz.prog.fieldsOf 84)):=by kernel_rfl
 have hp:Tryz.prog.stoodInHeld 84=false:=by kernel_rfl
 rw[show(10000:Nat)=9999+1 from rfl,run_equalIn_agg w 9999 84 _ _ hS hp];simp only[Program.fieldsOf,Tryz.underlying84]
 go_simp
 by_cases h1:a=b<;>by_cases h2:x=y<;>simp[h1,h2,tl_iff]
theorem jnok_below {w w':World} {g:Nat} {j:Jn} (h:JnIn w g j) (hb:Below w.heap.size w w'):JnOk w w' g j:=⟨h.below hb,kept_below _ hb⟩
theorem jo_below {w W W':World} {g:Nat} {j:Jn} (h:JnOk w W g j) (hb:Below W.heap.size W W'):JnOk w W' g j:=⟨h.j.below hb,h.k.then (hb.mono h.k.size)⟩
theorem nob_size {b:ByteArray}:b.size=0↔b=nob:=⟨fun h=>bl_inj (List.eq_nil_of_length_eq_zero (by rw[bl_len];exact h)),fun h=>by rw[h];rfl⟩
theorem tb_size (h:ByteArray):(h.toList==[])=decide (h.size=0):=by
 by_cases e:h.size=0
 ·rw[decide_eq_true e,nob_size.1 e,ByteArray.toList_eq];rfl
 ·rw[decide_eq_false e]
  refine beq_eq_false_iff_ne.2 (fun e2=>e ?_);have h9:h.data.toList.length=0:=by rw[←ByteArray.toList_eq,e2];rfl
  rw[Array.length_toList]at h9;exact h9
structure FdM (w W:World) (g:Nat) (j:Jn) (bp:Nat) (p:Pk) (bn:Nat):Prop where
 j:JnOk w W g j
 b:Blk W bp 80 (pkV p)
 n:Blk W bn 84 #[.int .i64 p.count,.string p.body]
 gb:bp≠g
 gn:bn≠g
section
variable {w W W':World} {g bp bn:Nat} {j j':Jn} {p:Pk}
theorem FdM.step (h:FdM w W g j bp p bn) (k:JnOk W W' g j'):FdM w W' g j' bp p bn:=
 ⟨h.j.trans k,(k.k.block bp (Blk.lt h.b) h.gb).trans h.b,(k.k.block bn (Blk.lt h.n) h.gn).trans h.n,h.gb,h.gn⟩
theorem FdM.below (h:FdM w W g j bp p bn) (hb:Below W.heap.size W W'):FdM w W' g j bp p bn:=⟨jo_below h.j hb,Blk.below h.b hb (Blk.lt h.b),Blk.below h.n hb (Blk.lt h.n),h.gb,h.gn⟩
end
theorem jn_set3 {W:World} {g:Nat} {j:Jn} (h:JnIn W g j) (c:Int) (b:ByteArray):JnOk W ((W.setCell ⟨g,3,none⟩ (.int .i64 c)).setCell ⟨g,4,none⟩ (.string b)) g {j with cnt:=c,seen:=b}:=
 ⟨Blk.set_ (Blk.set_ (show Blk W g 86 #[.int .i64 j.pid,.string j.hold,.bool j.fol,.int .i64 j.cnt,.string j.seen,.int .i64 (j.lost:Int)]from h) 3 (.int .i64 c)) 4 (.string b),
  (kept_set (F:=fun i=>i=g) (p:=⟨g,3,none⟩) (u:= .int .i64 c) rfl).trans (kept_set (F:=fun i=>i=g) (p:=⟨g,4,none⟩) (u:= .string b) rfl) (fun _ _ e=>e)⟩
theorem jn_set1 {W:World} {g:Nat} {j:Jn} (h:JnIn W g j):JnOk W ((W.setCell ⟨g,1,none⟩ (.string nob)).setCell ⟨g,2,none⟩ (.bool true)) g {j with hold:=nob,fol:=true}:=
 ⟨Blk.set_ (Blk.set_ (show Blk W g 86 #[.int .i64 j.pid,.string j.hold,.bool j.fol,.int .i64 j.cnt,.string j.seen,.int .i64 (j.lost:Int)]from h) 1 (.string nob)) 2 (.bool true),
  (kept_set (F:=fun i=>i=g) (p:=⟨g,1,none⟩) (u:= .string nob) rfl).trans (kept_set (F:=fun i=>i=g) (p:=⟨g,2,none⟩) (u:= .bool true) rfl) (fun _ _ e=>e)⟩
theorem jn_set5 {W:World} {g:Nat} {j:Jn} (h:JnIn W g j):JnOk W (W.setCell ⟨g,5,none⟩ (.int .i64 ((j.lost:Int)+1))) g {j with lost:=j.lost+1}:=
 ⟨Blk.set_ (show Blk W g 86 #[.int .i64 j.pid,.string j.hold,.bool j.fol,.int .i64 j.cnt,.string j.seen,.int .i64 (j.lost:Int)]from h) 5 (.int .i64 ((j.lost:Int)+1)),kept_set rfl⟩
theorem tkJ_len: ∀(k:Nat) (h:ByteArray) (f:Bool),(tkJ k h f).1.length≤h.size
 |0,h,f=>by simp[tkJ]
 |k+1,h,f=>by
  rw[tkJ];by_cases e0:h.size=0
  ·rw[if_pos e0];simp
  ·rw[if_neg e0]
   by_cases e1:at0 h 0=255
   ·rw[if_pos e1];simp
   ·rw[if_neg e1]
    by_cases e2:h.size<3
    ·rw[if_pos e2];simp
    ·rw[if_neg e2]
     by_cases e3:needE h≠0
     ·rw[if_pos e3];simp
     ·rw[if_neg e3]
      by_cases e4:h.size<needN h
      ·rw[if_pos e4];simp
      ·rw[if_neg e4]
       have hp:=need_pos (Decidable.byContradiction e3);have h1:=tkJ_len k (h.extract (needN h) h.size) f;rw[ByteArray.size_extract]at h1;simp only[List.length_cons];omega
theorem tkO_len (h:ByteArray) (f:Bool):(tkO h f).length≤h.size:=tkJ_len _ _ _
theorem onO_len (h:ByteArray) (f:Bool) (s:ByteArray):(onO h f s).length≤h.size+s.size:=by
 unfold onO
 split
 ·have:=tkO_len (h++s) f
  rw[ByteArray.size_append]at this;exact this
 ·simp
structure FdIn (w:World) (g:Nat) (f:JnP.Fd) (e:Ending) (w':World):Prop where
 e: ∃v,e= .returned (.tuple #[v,.int .i64 f.e])∧w'.ownsRow w.heap.size 9 1 v f.o.length (flat enS f.o)
 j:JnOk w w' g f.j
set_option maxHeartbeats 6400000 in
theorem feed_any (w:World) (g:Nat) (j:Jn) (p:Pk) (h:JnIn w g j) (hh:j.hold.size≤800000) (hc:0≤j.cnt∧j.cnt≤15) (hl:j.lost≤1000000000):
 Calls Tryz.prog 44 #[.pointer (some ⟨g,0,none⟩),.agg (pkV p)] w (FdIn w g (JnP.feed j p)):=by
 have HFE:Hid (JnP.feed j p=if pkE p≠0 then⟨[],pkE p,j⟩else if p.pid≠j.pid then⟨[],14,j⟩else if p.body.size=0∨(p.count=j.cnt∧p.body=j.seen)then⟨[],0,j⟩
  else if p.bad then⟨[],21,{j.drop with lost:=j.lost+1}⟩
  else if gap j p then fd2 j p 21 (j.lost+1) nob false else fd2 j p 0 j.lost j.hold j.fol):=Lib.hid rfl
 have HGE:Hid (gap j p=(!decide (j.cnt=0∧j.seen=nob)&&decide (p.count≠(j.cnt+1)%16))):=Lib.hid (by unfold gap;rw[Int.tmod_eq_emod_of_nonneg (by omega)]);obtain⟨F,hF⟩: ∃F,JnP.feed j p=F:=⟨_,rfl⟩;rw[hF]at HFE ⊢;clear hF;obtain⟨R,hR⟩: ∃R,R=FdIn w g F:=⟨_,rfl⟩;rw[←hR];have HR:=Lib.hid hR;clear hR;have kc:=pcheck_any p (w.alloc (.cells (pkV p) 80));have hB0:=bk1 w 80 (pkV p);have hgw:=Blk.lt (show Blk w g 86 (jc j)from h);have HJ0:=Lib.hid (jnok_below h ((Below.refl _ w).alloc (Nat.le_refl _) (.cells (pkV p) 80)));obtain⟨E,hE⟩: ∃E,pkE p=E:=⟨_,rfl⟩;rw[hE]at HFE kc;have HPK:=Lib.hid hE;clear hE h;obtain⟨pid,start,count,bad,body⟩:=p;unfold pkV at kc hB0 HJ0 ⊢;dsimp only at HFE HGE kc hB0 HJ0 ⊢;have HB0:=Lib.hid hB0;have c0:=Blk.cell (hB0.nth 0 rfl) 0 (v:= .int .i64 pid) rfl;have c1:=Blk.cell (hB0.nth 0 rfl) 1 (v:= .bool start) rfl;have c2:=Blk.cell (hB0.nth 0 rfl) 2 (v:= .int .i64 count) rfl;have c3:=Blk.cell (hB0.nth 0 rfl) 3 (v:= .bool bad) rfl;have c4:=Blk.cell (hB0.nth 0 rfl) 4 (v:= .string body) rfl;clear hB0;by_cases hE0:E=0
 case neg=>
  have t1:(E !=0)=true:=by simpa using hE0
  have HF:=Lib.hid (show F=⟨[],E,j⟩ by rw[HFE.out,if_pos hE0]);clear hE0
  go_enter Tryz.func44,Tryz.ntmps44
  go_wp2_with fail
  (with_reducible refine(kc).mono ?_);rintro e1 W1 ⟨rfl,hb1⟩
  have hj:=jo_below HJ0.out hb1;clear kc
  go_wp2_with fail
  rw[HR.out,HF.out];exact⟨⟨.slice none 0 0,rfl,World.ownsRow_nil _ _ _ _⟩,hj⟩
 subst hE0
 have HBZ:Hid (body.size≤184):=Lib.hid (by
  have h1:=HPK.out;unfold pkE at h1;dsimp only at h1
  split at h1
  ·cases h1
  ·split at h1
   ·cases h1
   ·omega)
 clear HPK;have HFE2:=Lib.hid (HFE.out.trans (if_neg (by decide)));clear HFE
 go_enter Tryz.func44,Tryz.ntmps44
 go_wp2_with fail
 (with_reducible refine(kc).mono ?_);rintro e1 W1 ⟨rfl,hb1⟩
 have hbp:Blk W1 w.heap.size 80 #[.int .i64 pid,.bool start,.int .i64 count,.bool bad,.string body]:=(HB0.out.below hb1).nth 0 rfl;have hj1:=jo_below HJ0.out hb1
 have HM:=Lib.hid (show FdM w (W1.alloc (.cells #[.int .i64 count,.string body] 84)) g j w.heap.size ⟨pid,start,count,bad,body⟩ W1.heap.size from
  ⟨jo_below hj1 ((Below.refl _ _).alloc (Nat.le_refl _) _),Blk.alloc hbp _,Blk.new _ _ _,by omega,by have:=hj1.k.size;omega⟩)
 clear kc c0 c1 c2 c3 c4 hb1;have c0:=Blk.cell (hbp) 0 (v:= .int .i64 pid) rfl;have c1:=Blk.cell (hbp) 1 (v:= .bool start) rfl;have c2:=Blk.cell (hbp) 2 (v:= .int .i64 count) rfl;have c3:=Blk.cell (hbp) 3 (v:= .bool bad) rfl;have c4:=Blk.cell (hbp) 4 (v:= .string body) rfl;clear hbp hj1 HB0 HJ0
 go_upto_region 7 with fail
 clear c0 c1 c2 c3 c4;obtain⟨W2,hW2⟩: ∃W2,W1.alloc (.cells #[.int .i64 count,.string body] 84)=W2:=⟨_,rfl⟩;obtain⟨bn,hbn⟩: ∃bn,W1.heap.size=bn:=⟨_,rfl⟩;rw[hW2,hbn]at HM;rw[hW2,hbn];clear hW2 hbn;have x0:=fun pX=>Blk.cell (blk_ext (HM.out.b) pX) 0 (v:= .int .i64 pid) rfl;have x1:=fun pX=>Blk.cell (blk_ext (HM.out.b) pX) 1 (v:= .bool start) rfl;have x2:=fun pX=>Blk.cell (blk_ext (HM.out.b) pX) 2 (v:= .int .i64 count) rfl;have x3:=fun pX=>Blk.cell (blk_ext (HM.out.b) pX) 3 (v:= .bool bad) rfl;have x4:=fun pX=>Blk.cell (blk_ext (HM.out.b) pX) 4 (v:= .string body) rfl;have y0:=fun pX=>Blk.cell (blk_ext ((show Blk W2 g 86 #[.int .i64 j.pid,.string j.hold,.bool j.fol,.int .i64 j.cnt,.string j.seen,.int .i64 (j.lost:Int)]from HM.out.j.j)) pX) 0 (v:= .int .i64 j.pid) rfl;have y1:=fun pX=>Blk.cell (blk_ext ((show Blk W2 g 86 #[.int .i64 j.pid,.string j.hold,.bool j.fol,.int .i64 j.cnt,.string j.seen,.int .i64 (j.lost:Int)]from HM.out.j.j)) pX) 1 (v:= .string j.hold) rfl;have y2:=fun pX=>Blk.cell (blk_ext ((show Blk W2 g 86 #[.int .i64 j.pid,.string j.hold,.bool j.fol,.int .i64 j.cnt,.string j.seen,.int .i64 (j.lost:Int)]from HM.out.j.j)) pX) 2 (v:= .bool j.fol) rfl;have y3:=fun pX=>Blk.cell (blk_ext ((show Blk W2 g 86 #[.int .i64 j.pid,.string j.hold,.bool j.fol,.int .i64 j.cnt,.string j.seen,.int .i64 (j.lost:Int)]from HM.out.j.j)) pX) 3 (v:= .int .i64 j.cnt) rfl;have y4:=fun pX=>Blk.cell (blk_ext ((show Blk W2 g 86 #[.int .i64 j.pid,.string j.hold,.bool j.fol,.int .i64 j.cnt,.string j.seen,.int .i64 (j.lost:Int)]from HM.out.j.j)) pX) 4 (v:= .string j.seen) rfl;have y5:=fun pX=>Blk.cell (blk_ext ((show Blk W2 g 86 #[.int .i64 j.pid,.string j.hold,.bool j.fol,.int .i64 j.cnt,.string j.seen,.int .i64 (j.lost:Int)]from HM.out.j.j)) pX) 5 (v:= .int .i64 (j.lost:Int)) rfl;by_cases hp:pid=j.pid
 case neg=>
  have t1:(pid !=j.pid)=true:=bne_iff_ne.2 hp;have HF:=Lib.hid (show F=⟨[],14,j⟩ by rw[HFE2.out,if_pos hp]);clear hp;refine Go.Proofs.YtdbpkhnmhddmmaaGreatDoor.Q.region_ext (by kernel_rfl) (by kernel_rfl) ?_
  repeat (go_big_quiet_step (fail))
  refine wpQuiet_nil ?_;rintro w9 ⟨pq,rfl⟩;have hj:=jo_below HM.out.j (below_ext W2 pq)
  go_wp2_with fail
  rw[HR.out,HF.out];exact⟨⟨.slice none 0 0,rfl,World.ownsRow_nil _ _ _ _⟩,hj⟩
 have t1:(pid !=j.pid)=false:=by simp[hp]
 have HFE3:=Lib.hid (HFE2.out.trans (if_neg (fun h=>h hp)));clear hp HFE2;refine Go.Proofs.YtdbpkhnmhddmmaaGreatDoor.Q.region_ext (by kernel_rfl) (by kernel_rfl) ?_
 repeat (go_big_quiet_step (fail))
 refine wpQuiet_nil ?_;rintro w9 ⟨pq,rfl⟩;have HM2:=Lib.hid (HM.out.below (below_ext W2 pq));obtain⟨W3,hW3⟩: ∃W3,ext W2 pq=W3:=⟨_,rfl⟩;rw[hW3]at HM2;rw[hW3];clear hW3 HM x0 x1 x2 x3 x4 y0 y1 y2 y3 y4 y5 t1;have x0:=fun pX=>Blk.cell (blk_ext (HM2.out.b) pX) 0 (v:= .int .i64 pid) rfl;have x1:=fun pX=>Blk.cell (blk_ext (HM2.out.b) pX) 1 (v:= .bool start) rfl;have x2:=fun pX=>Blk.cell (blk_ext (HM2.out.b) pX) 2 (v:= .int .i64 count) rfl;have x3:=fun pX=>Blk.cell (blk_ext (HM2.out.b) pX) 3 (v:= .bool bad) rfl;have x4:=fun pX=>Blk.cell (blk_ext (HM2.out.b) pX) 4 (v:= .string body) rfl;have y0:=fun pX=>Blk.cell (blk_ext ((show Blk W3 g 86 #[.int .i64 j.pid,.string j.hold,.bool j.fol,.int .i64 j.cnt,.string j.seen,.int .i64 (j.lost:Int)]from HM2.out.j.j)) pX) 0 (v:= .int .i64 j.pid) rfl;have y1:=fun pX=>Blk.cell (blk_ext ((show Blk W3 g 86 #[.int .i64 j.pid,.string j.hold,.bool j.fol,.int .i64 j.cnt,.string j.seen,.int .i64 (j.lost:Int)]from HM2.out.j.j)) pX) 1 (v:= .string j.hold) rfl;have y2:=fun pX=>Blk.cell (blk_ext ((show Blk W3 g 86 #[.int .i64 j.pid,.string j.hold,.bool j.fol,.int .i64 j.cnt,.string j.seen,.int .i64 (j.lost:Int)]from HM2.out.j.j)) pX) 2 (v:= .bool j.fol) rfl;have y3:=fun pX=>Blk.cell (blk_ext ((show Blk W3 g 86 #[.int .i64 j.pid,.string j.hold,.bool j.fol,.int .i64 j.cnt,.string j.seen,.int .i64 (j.lost:Int)]from HM2.out.j.j)) pX) 3 (v:= .int .i64 j.cnt) rfl;have y4:=fun pX=>Blk.cell (blk_ext ((show Blk W3 g 86 #[.int .i64 j.pid,.string j.hold,.bool j.fol,.int .i64 j.cnt,.string j.seen,.int .i64 (j.lost:Int)]from HM2.out.j.j)) pX) 4 (v:= .string j.seen) rfl;have y5:=fun pX=>Blk.cell (blk_ext ((show Blk W3 g 86 #[.int .i64 j.pid,.string j.hold,.bool j.fol,.int .i64 j.cnt,.string j.seen,.int .i64 (j.lost:Int)]from HM2.out.j.j)) pX) 5 (v:= .int .i64 (j.lost:Int)) rfl;have n0:=fun pX=>Blk.cell (blk_ext (HM2.out.n) pX) 0 (v:= .int .i64 count) rfl;have n1:=fun pX=>Blk.cell (blk_ext (HM2.out.n) pX) 1 (v:= .string body) rfl;have tb:=tb_size body;have eq:=fun V=>eqSi count j.cnt body j.seen V;by_cases hz:body.size=0
 ·rw[decide_eq_true hz]at tb
  have HF:=Lib.hid (show F=⟨[],0,j⟩ by rw[HFE3.out,if_pos (Or.inl hz)]);clear hz
  go_wp2_with fail
  refine Go.Proofs.YtdbpkhnmhddmmaaGreatDoor.Q.region_ext (by kernel_rfl) (by kernel_rfl) ?_
  repeat (go_big_quiet_step (fail))
  refine wpQuiet_nil ?_;rintro w9 ⟨pq,rfl⟩;have hj:=jo_below HM2.out.j (below_ext W3 pq)
  go_wp2_with fail
  rw[HR.out,HF.out];exact⟨⟨.slice none 0 0,rfl,World.ownsRow_nil _ _ _ _⟩,hj⟩
 rw[decide_eq_false hz]at tb;by_cases hse:count=j.cnt∧body=j.seen
 ·rw[decide_eq_true hse]at eq
  have HF:=Lib.hid (show F=⟨[],0,j⟩ by rw[HFE3.out,if_pos (Or.inr hse)]);clear hz hse
  go_wp2_with fail
  refine Go.Proofs.YtdbpkhnmhddmmaaGreatDoor.Q.region_ext (by kernel_rfl) (by kernel_rfl) ?_
  repeat (go_big_quiet_step (fail))
  refine wpQuiet_nil ?_;rintro w9 ⟨pq,rfl⟩;have hj:=jo_below HM2.out.j (below_ext W3 pq)
  go_wp2_with fail
  rw[HR.out,HF.out];exact⟨⟨.slice none 0 0,rfl,World.ownsRow_nil _ _ _ _⟩,hj⟩
 rw[decide_eq_false hse]at eq;have HFE4:=Lib.hid (HFE3.out.trans (if_neg (fun h=>h.elim hz hse)));have HB0:=Lib.hid hz;clear hz hse HFE3
 go_wp2_with fail
 refine Go.Proofs.YtdbpkhnmhddmmaaGreatDoor.Q.region_ext (by kernel_rfl) (by kernel_rfl) ?_
 repeat (go_big_quiet_step (fail))
 refine wpQuiet_nil ?_;rintro w9 ⟨pr,rfl⟩;have HM4:=Lib.hid (HM2.out.below (below_ext W3 pr));obtain⟨W4,hW4⟩: ∃W4,ext W3 pr=W4:=⟨_,rfl⟩;rw[hW4]at HM4;rw[hW4];clear hW4 HM2 x0 x1 x2 x3 x4 y0 y1 y2 y3 y4 y5 n0 n1 eq tb;have x0:=Blk.cell (HM4.out.b) 0 (v:= .int .i64 pid) rfl;have x1:=Blk.cell (HM4.out.b) 1 (v:= .bool start) rfl;have x2:=Blk.cell (HM4.out.b) 2 (v:= .int .i64 count) rfl;have x3:=Blk.cell (HM4.out.b) 3 (v:= .bool bad) rfl;have x4:=Blk.cell (HM4.out.b) 4 (v:= .string body) rfl
 cases bad with
 |true=>
  have HF:=Lib.hid (show F=⟨[],21,{j.drop with lost:=j.lost+1}⟩ by rw[HFE4.out,if_pos rfl]);have kd:=drop_any HM4.out.j.j;clear HFE4
  go_wp2_with fail
  (with_reducible refine(kd).mono ?_);rintro e9 W9 ⟨rfl,hj⟩
  have hJ:=HM4.out.step hj;have hjb:Blk W9 g 86 #[.int .i64 j.pid,.string nob,.bool false,.int .i64 0,.string nob,.int .i64 (j.lost:Int)]:=hj.j;have y5:=Blk.cell hjb 5 (v:= .int .i64 (j.lost:Int)) rfl;have f5:=Blk.frozen hjb 5;have hl2:(j.lost:Int)≤1000000000:=by omega
  have hl3:(0:Int)≤(j.lost:Int):=Int.natCast_nonneg _;have HJ2:=Lib.hid (hJ.j.trans (jn_set5 hJ.j.j));clear kd hj hjb hJ
  go_wp2_with fail
  rw[HR.out,HF.out];exact⟨⟨.slice none 0 0,rfl,World.ownsRow_nil _ _ _ _⟩,HJ2.out⟩
 |false=>
  have HFE5:=Lib.hid (HFE4.out.trans (if_neg (by decide)));clear HFE4
  go_upto_region 16 with fail
  clear x0 x1 x2 x3 x4;have x0:=fun pX=>Blk.cell (blk_ext (HM4.out.b) pX) 0 (v:= .int .i64 pid) rfl;have x1:=fun pX=>Blk.cell (blk_ext (HM4.out.b) pX) 1 (v:= .bool start) rfl;have x2:=fun pX=>Blk.cell (blk_ext (HM4.out.b) pX) 2 (v:= .int .i64 count) rfl;have x3:=fun pX=>Blk.cell (blk_ext (HM4.out.b) pX) 3 (v:= .bool false) rfl;have x4:=fun pX=>Blk.cell (blk_ext (HM4.out.b) pX) 4 (v:= .string body) rfl;have y0:=fun pX=>Blk.cell (blk_ext ((show Blk W4 g 86 #[.int .i64 j.pid,.string j.hold,.bool j.fol,.int .i64 j.cnt,.string j.seen,.int .i64 (j.lost:Int)]from HM4.out.j.j)) pX) 0 (v:= .int .i64 j.pid) rfl;have y1:=fun pX=>Blk.cell (blk_ext ((show Blk W4 g 86 #[.int .i64 j.pid,.string j.hold,.bool j.fol,.int .i64 j.cnt,.string j.seen,.int .i64 (j.lost:Int)]from HM4.out.j.j)) pX) 1 (v:= .string j.hold) rfl;have y2:=fun pX=>Blk.cell (blk_ext ((show Blk W4 g 86 #[.int .i64 j.pid,.string j.hold,.bool j.fol,.int .i64 j.cnt,.string j.seen,.int .i64 (j.lost:Int)]from HM4.out.j.j)) pX) 2 (v:= .bool j.fol) rfl;have y3:=fun pX=>Blk.cell (blk_ext ((show Blk W4 g 86 #[.int .i64 j.pid,.string j.hold,.bool j.fol,.int .i64 j.cnt,.string j.seen,.int .i64 (j.lost:Int)]from HM4.out.j.j)) pX) 3 (v:= .int .i64 j.cnt) rfl;have y4:=fun pX=>Blk.cell (blk_ext ((show Blk W4 g 86 #[.int .i64 j.pid,.string j.hold,.bool j.fol,.int .i64 j.cnt,.string j.seen,.int .i64 (j.lost:Int)]from HM4.out.j.j)) pX) 4 (v:= .string j.seen) rfl;have y5:=fun pX=>Blk.cell (blk_ext ((show Blk W4 g 86 #[.int .i64 j.pid,.string j.hold,.bool j.fol,.int .i64 j.cnt,.string j.seen,.int .i64 (j.lost:Int)]from HM4.out.j.j)) pX) 5 (v:= .int .i64 (j.lost:Int)) rfl;have eq:=fun V=>eqSi j.cnt 0 j.seen nob V;have hc1:=hc.1;have hc2:=hc.2;have hj1:(j.cnt+1)≤16:=by omega
  by_cases hg0:j.cnt=0∧j.seen=nob
  ·rw[decide_eq_true hg0]at eq
   have HFT:=Lib.hid (HFE5.out.trans (if_neg (by rw[HGE.out,decide_eq_true hg0];simp)));clear hg0 HFE5 HGE hc
   go_wp2_with fail
   refine Go.Proofs.YtdbpkhnmhddmmaaGreatDoor.Q.region_ext (by kernel_rfl) (by kernel_rfl) ?_
   repeat (go_big_quiet_step (fail))
   refine wpQuiet_nil ?_;rintro w9 ⟨ps,rfl⟩;have HMT:=Lib.hid (HM4.out.below (below_ext W4 ps));obtain⟨WT,hWT⟩: ∃W,ext W4 ps=W:=⟨_,rfl⟩;rw[hWT]at HMT;rw[hWT];clear hWT HM4 x0 x1 x2 x3 x4 y0 y1 y2 y3 y4 y5 eq hc1 hc2 hj1;have HH5:=Lib.hid hh;obtain⟨j5,hj5⟩: ∃j5:Jn,j=j5:=⟨_,rfl⟩;rw[hj5]at HFT HMT HH5;have hjb:Blk WT g 86 #[.int .i64 j5.pid,.string j5.hold,.bool j5.fol,.int .i64 j5.cnt,.string j5.seen,.int .i64 (j5.lost:Int)]:=HMT.out.j.j;have y0:=Blk.cell (hjb) 0 (v:= .int .i64 j5.pid) rfl;have y1:=Blk.cell (hjb) 1 (v:= .string j5.hold) rfl;have y2:=Blk.cell (hjb) 2 (v:= .bool j5.fol) rfl;have y3:=Blk.cell (hjb) 3 (v:= .int .i64 j5.cnt) rfl;have y4:=Blk.cell (hjb) 4 (v:= .string j5.seen) rfl;have y5:=Blk.cell (hjb) 5 (v:= .int .i64 (j5.lost:Int)) rfl;have b3:=Blk.set_ hjb 3 (.int .i64 count);have f3:=Blk.frozen hjb 3;have f4:=Blk.frozen hjb 4;have f5:=Blk.frozen b3 4;have y9:=Blk.cell b3 4 (v:= .string j5.seen) rfl;have n0:=Blk.cell (HMT.out.n) 0 (v:= .int .i64 count) rfl;have n1:=Blk.cell (HMT.out.n) 1 (v:= .string body) rfl;clear hjb b3
   go_upto_region 21 with fail
   clear y0 y1 y2 y3 y4 y5 y9 f3 f4 f5 n0 n1;refine wp_gen (fun V=>FdM w V g {j5 with cnt:=count,seen:=body} w.heap.size ⟨pid,start,count,false,body⟩ bn) (HMT.out.step (jn_set3 HMT.out.j.j count body)) ?_;intro WU hMU;clear HMT
   cases start with
   |false=>
    have x0:=Blk.cell (hMU.b) 0 (v:= .int .i64 pid) rfl;have x1:=Blk.cell (hMU.b) 1 (v:= .bool false) rfl;have x2:=Blk.cell (hMU.b) 2 (v:= .int .i64 count) rfl;have x3:=Blk.cell (hMU.b) 3 (v:= .bool false) rfl;have x4:=Blk.cell (hMU.b) 4 (v:= .string body) rfl;have ko:=onward_any WU g {j5 with cnt:=count,seen:=body} body 0 hMU.j.j (by have:=HBZ.out;have:=HH5.out;dsimp only;omega);dsimp only at ko;have HF:Hid (F=⟨onO j5.hold j5.fol body,onE j5.hold j5.fol body 0,⟨j5.pid,onH j5.hold j5.fol body,onF j5.hold j5.fol body,count,body,j5.lost⟩⟩):=Lib.hid (by rw[HFT.out];unfold fd2;rw[if_neg (fun h=>by cases h)]);have HMU:=Lib.hid hMU;obtain⟨o1,ho1⟩: ∃o,onO j5.hold j5.fol body=o:=⟨_,rfl⟩;obtain⟨e1,he1⟩: ∃o,onE j5.hold j5.fol body 0=o:=⟨_,rfl⟩;rw[ho1,he1]at ko HF;clear hMU ho1 he1
    go_wp2_with fail
    (with_reducible refine(ko).mono ?_);rintro e9 W9 hk
    obtain⟨⟨v,rfl,hown⟩,hj⟩:=hk;have hJ:=HMU.out.step hj;clear ko
    go_wp2_with fail
    rw[HR.out,HF.out];exact⟨⟨v,rfl,ApG.own_base hown HMU.out.j.k.size⟩,hJ.j⟩
   |true=>
    have x0:=fun pX=>Blk.cell (blk_ext (hMU.b) pX) 0 (v:= .int .i64 pid) rfl;have x1:=fun pX=>Blk.cell (blk_ext (hMU.b) pX) 1 (v:= .bool true) rfl;have x2:=fun pX=>Blk.cell (blk_ext (hMU.b) pX) 2 (v:= .int .i64 count) rfl;have x3:=fun pX=>Blk.cell (blk_ext (hMU.b) pX) 3 (v:= .bool false) rfl;have x4:=fun pX=>Blk.cell (blk_ext (hMU.b) pX) 4 (v:= .string body) rfl;have HMU:=Lib.hid hMU;have hb1:1≤body.size:=by have:=HB0.out;omega
    have i0: ∀V:World,(Instr.index 9 (.string body) (.int .i64 0)).run Tryz.prog V= .ok (.int .u8 (at0 body 0:Int)) V:=fun V=>idx_at body 0 (by omega) V
    have s1: ∀V:World,(Instr.slice 9 (.string body) (some (.int .i64 1)) none none).run Tryz.prog V= .ok (.string (body.extract 1 body.size)) V:=fun V=>by
     rw[run_slice_string_l V 9 body Tryz.underlying9 .i64 1 (by omega) (by omega)];rfl
    have HRS:Hid ((body.extract 1 body.size).size=body.size-1):=Lib.hid (by rw[ByteArray.size_extract];omega);have hr9:=at0_lt body 0;have HFT2:Hid (F=if body.size<at0 body 0+1 then⟨[],12,⟨j5.pid,nob,false,count,body,j5.lost⟩⟩else⟨onO j5.hold j5.fol (body.extract 1 (at0 body 0+1))++tkO (body.extract (at0 body 0+1) body.size) true,JnP.worse (tkE (body.extract (at0 body 0+1) body.size) true) (onE j5.hold j5.fol (body.extract 1 (at0 body 0+1)) 0),⟨j5.pid,tkH (body.extract (at0 body 0+1) body.size) true,tkF (body.extract (at0 body 0+1) body.size) true,count,body,j5.lost⟩⟩):=Lib.hid (by rw[HFT.out];unfold fd2;rw[if_pos rfl])
    have HXA:Hid (∀r,(body.extract 1 body.size).extract 0 r=body.extract 1 (r+1)∨body.size<r+1):=Lib.hid (fun r=>by
     by_cases h:body.size<r+1
     ·exact Or.inr h
     ·left
      exact bl_inj (by simp only[ext_bl];rw[List.drop_zero,List.take_take];congr 1;omega))
    have HXB:Hid (∀r,(body.extract 1 body.size).extract r (body.extract 1 body.size).size=body.extract (r+1) body.size):=Lib.hid (fun r=>bl_inj (by
     rw[HRS.out];simp only[ext_bl];rw[List.drop_take,List.drop_drop,List.take_take]
     congr 1
     ·omega
     ·congr 1;omega))
    obtain⟨r,hr⟩: ∃r,at0 body 0=r:=⟨_,rfl⟩;obtain⟨rest,hrest⟩: ∃x,body.extract 1 body.size=x:=⟨_,rfl⟩;rw[hr]at i0 hr9 HFT2;rw[hrest]at s1 HRS HXA HXB;have q9:=wrap63 r (by omega);have q8:(r:Int)≤255:=by omega
    have z0:=Blk.cell (hMU.b) 0 (v:= .int .i64 pid) rfl;have z1:=Blk.cell (hMU.b) 1 (v:= .bool true) rfl;have z2:=Blk.cell (hMU.b) 2 (v:= .int .i64 count) rfl;have z3:=Blk.cell (hMU.b) 3 (v:= .bool false) rfl;have z4:=Blk.cell (hMU.b) 4 (v:= .string body) rfl;clear hMU hr hrest HFT
    go_wp2_with fail
    clear z0 z1 z2 z3 z4;refine Go.Proofs.YtdbpkhnmhddmmaaGreatDoor.Q.region_ext (by kernel_rfl) (by kernel_rfl) ?_
    repeat (go_big_quiet_step (fail))
    refine wpQuiet_nil ?_;rintro w9 ⟨pq,rfl⟩;have HMV:=Lib.hid (HMU.out.below (below_ext WU pq));obtain⟨WV,hWV⟩: ∃W,ext WU pq=W:=⟨_,rfl⟩;rw[hWV]at HMV;rw[hWV];clear hWV HMU x0 x1 x2 x3 x4 i0 s1;by_cases hlt:body.size<r+1
    ·have t8:decide ((rest.size:Int)<(r:Int))=true:=decide_eq_true (by have:=HRS.out;omega)
     have t8':decide (rest.size<r)=true:=decide_eq_true (by have:=HRS.out;omega);have HF:=Lib.hid (HFT2.out.trans (if_pos hlt));have kl:=lose_any HMV.out.j.j;clear hlt HFT2
     go_wp2_with fail
     (with_reducible refine(kl).mono ?_);rintro e9 W9 ⟨rfl,hj⟩
     have hJ:=HMV.out.step hj;clear kl
     go_wp2_with fail
     rw[HR.out,HF.out];exact⟨⟨.slice none 0 0,rfl,World.ownsRow_nil _ _ _ _⟩,hJ.j⟩
    ·have t8:decide ((rest.size:Int)<(r:Int))=false:=decide_eq_false (by have:=HRS.out;omega)
     have t8':decide (rest.size<r)=false:=decide_eq_false (by have:=HRS.out;omega);have HF:=Lib.hid (HFT2.out.trans (if_neg hlt));have hrr:r≤rest.size:=by have:=HRS.out;omega
     have hrr':(r:Int)≤(rest.size:Int):=by omega
     have r0:(0:Int)≤(r:Int):=Int.natCast_nonneg _
     have s2: ∀V:World,(Instr.slice 9 (.string rest) none (some (.int .i64 (r:Int))) none).run Tryz.prog V= .ok (.string (rest.extract 0 r)) V:=fun V=>by
      rw[run_slice_string_h V 9 rest Tryz.underlying9 .i64 (r:Int) (by omega) (by omega),Int.toNat_natCast]
     have s3: ∀V:World,(Instr.slice 9 (.string rest) (some (.int .i64 (r:Int))) none none).run Tryz.prog V= .ok (.string (rest.extract r rest.size)) V:=fun V=>by
      rw[run_slice_string_l V 9 rest Tryz.underlying9 .i64 (r:Int) (by omega) (by omega),Int.toNat_natCast]
     rw[(HXA.out r).resolve_right hlt]at s2;rw[HXB.out r]at s3;obtain⟨A,hA⟩: ∃A,body.extract 1 (r+1)=A:=⟨_,rfl⟩;obtain⟨B,hB⟩: ∃A,body.extract (r+1) body.size=A:=⟨_,rfl⟩;have hAz:A.size≤184:=by rw[←hA,ByteArray.size_extract];have:=HBZ.out;omega
     have hBz:B.size≤184:=by rw[←hB,ByteArray.size_extract];have:=HBZ.out;omega
     rw[hA]at s2;rw[hB]at s3;rw[hA,hB]at HF;have ko:=onward_any WV g {j5 with cnt:=count,seen:=body} A 0 HMV.out.j.j (by have:=HH5.out;dsimp only;omega);dsimp only at ko;obtain⟨O1,hO1⟩: ∃o,onO j5.hold j5.fol A=o:=⟨_,rfl⟩;obtain⟨E1,hE1⟩: ∃o,onE j5.hold j5.fol A 0=o:=⟨_,rfl⟩;obtain⟨H1,hH1⟩: ∃o,onH j5.hold j5.fol A=o:=⟨_,rfl⟩;obtain⟨F1,hF1⟩: ∃o,onF j5.hold j5.fol A=o:=⟨_,rfl⟩;rw[hO1,hE1]at HF;rw[hO1,hE1,hH1,hF1]at ko;have HO1:Hid (O1.length≤900000):=Lib.hid (by rw[←hO1];have h1:=onO_len j5.hold j5.fol A;have h2:=HH5.out;omega);have HBZ2:=Lib.hid hBz;clear hlt HFT2 HXA HXB hA hB hO1 hE1 hH1 hF1 hAz hBz
     go_wp2_with fail
     (with_reducible refine(ko).mono ?_);rintro e9 W9 hk
     obtain⟨⟨v1,rfl,hown1⟩,hj⟩:=hk;obtain⟨va1,vc1,rfl⟩:=Ap.own_form hown1;have HM9:=Lib.hid (HMV.out.step hj);have HW1:=Lib.hid (ApG.own_base hown1 HMV.out.j.k.size);have hjb:Blk W9 g 86 #[.int .i64 j5.pid,.string H1,.bool F1,.int .i64 count,.string body,.int .i64 (j5.lost:Int)]:=HM9.out.j.j;have b1:=Blk.set_ hjb 1 (.string nob);have f1:=Blk.frozen hjb 1;have y1:=Blk.cell hjb 1 (v:= .string H1) rfl;have f2:=Blk.frozen b1 2;have y2:=Blk.cell b1 2 (v:= .bool F1) rfl;have g2:=Blk.frozen hjb 2;have z2:=Blk.cell hjb 2 (v:= .bool F1) rfl;clear ko hown1 hj hjb b1
     go_upto_region 29 with fail
     clear f1 y1 f2 y2 g2 z2;have HKS:=Lib.hid (jn_set1 HM9.out.j.j);have HOS:=Lib.hid (FrA.own_kept HW1.out HKS.out.k (fun i hi e=>by subst e;have:=(HW1.out.lt _ hi).1;omega));refine wp_gen (fun V=>FdM w V g {j5 with cnt:=count,seen:=body,hold:=nob,fol:=true} w.heap.size ⟨pid,true,count,false,body⟩ bn∧V.ownsRow w.heap.size 9 1 (.slice va1 O1.length vc1) O1.length (flat enS O1)) ⟨HM9.out.step HKS.out,HOS.out⟩ ?_;rintro WX ⟨hMX,hownX⟩;have kt:=take_any WX g {j5 with cnt:=count,seen:=body,hold:=nob,fol:=true} B hMX.j.j (by have:=HBZ2.out;show(0:Nat)+B.size≤900000;omega);dsimp only at kt;rw[show nob++B=B from bl_inj (by rw[bl_app];rfl)]at kt;have HMX:=Lib.hid hMX;have HOX:=Lib.hid hownX;clear hMX hownX HM9 HW1 HKS HOS
     go_wp2_with fail
     (with_reducible refine(kt).mono ?_);rintro e8 W8 hk
     obtain⟨⟨v2,rfl,hown2⟩,hj2⟩:=hk;have HM8:=Lib.hid (HMX.out.step hj2);have HO8:=Lib.hid (FrA.own_kept HOX.out hj2.k (fun i hi e=>by subst e;have:=(HOX.out.lt _ hi).1;omega));obtain⟨O2,hO2⟩: ∃o,tkO B true=o:=⟨_,rfl⟩;obtain⟨E2,hE2⟩: ∃o,tkE B true=o:=⟨_,rfl⟩;rw[hO2]at hown2 HF;rw[hE2]at HF ⊢;obtain⟨a2,c2,rfl,hsl⟩:=BuE.own_slc hown2 rfl;have HSL:=Lib.hid hsl;have hz8:=HM8.out.j.k.size;have HO2:Hid (O2.length≤900000):=Lib.hid (by rw[←hO2];have h1:=tkO_len B true;have h2:=HBZ2.out;omega);have hlen1:=HO1.out;have hlen2:=HO2.out;clear kt hown2 hj2 hsl HOX hO2 hE2
     go_wp2_with (at_builtin;go_loud (refine wpList_appS (en:=enS) (A:=O1) (L:=O2) (base:=w.heap.size) rfl _ _ rfl BuE.enS_one BuE.enS_cell elemLS rfl rfl HO8.out rfl HSL.out.len HSL.out.nil HSL.out.s HSL.out.form (by omega) (by unfold maxLen;omega) hz8 ?_))
     intro v7 W7 hown7 hb7;have HM7:=Lib.hid (show JnOk w W7 g _ from⟨Blk.below HM8.out.j.j hb7 hgw,HM8.out.j.k.then hb7⟩);have HO7:=Lib.hid hown7;have kw:=worse_any E2 E1 W7;clear hown7 hb7 HO8 HM8 HSL hlen1 hlen2
     go_wp2_with fail
     (with_reducible refine(kw).mono ?_);rintro e6 W6 ⟨rfl,rfl⟩
     clear kw
     go_wp2_with fail
     rw[HR.out,HF.out];exact⟨⟨v7,rfl,by rw[List.length_append];exact HO7.out⟩,HM7.out⟩
  rw[decide_eq_false hg0]at eq;by_cases hg1:count=(j.cnt+1)%16
  ·have t7:(count !=(j.cnt+1)%16)=false:=by rw[←hg1];simp
   have t7':(count !=(j.cnt+1).tmod 16)=false:=by rw[Int.tmod_eq_emod_of_nonneg (by omega)];exact t7
   have HFT:=Lib.hid (HFE5.out.trans (if_neg (by rw[HGE.out,decide_eq_false (p:=count≠_) (fun h=>h hg1)];simp)));clear hg0 hg1 HFE5 HGE hc
   go_wp2_with fail
   refine Go.Proofs.YtdbpkhnmhddmmaaGreatDoor.Q.region_ext (by kernel_rfl) (by kernel_rfl) ?_
   repeat (go_big_quiet_step (fail))
   refine wpQuiet_nil ?_;rintro w9 ⟨ps,rfl⟩;have HMT:=Lib.hid (HM4.out.below (below_ext W4 ps));obtain⟨WT,hWT⟩: ∃W,ext W4 ps=W:=⟨_,rfl⟩;rw[hWT]at HMT;rw[hWT];clear hWT HM4 x0 x1 x2 x3 x4 y0 y1 y2 y3 y4 y5 eq hc1 hc2 hj1;have HH5:=Lib.hid hh;obtain⟨j5,hj5⟩: ∃j5:Jn,j=j5:=⟨_,rfl⟩;rw[hj5]at HFT HMT HH5;have hjb:Blk WT g 86 #[.int .i64 j5.pid,.string j5.hold,.bool j5.fol,.int .i64 j5.cnt,.string j5.seen,.int .i64 (j5.lost:Int)]:=HMT.out.j.j;have y0:=Blk.cell (hjb) 0 (v:= .int .i64 j5.pid) rfl;have y1:=Blk.cell (hjb) 1 (v:= .string j5.hold) rfl;have y2:=Blk.cell (hjb) 2 (v:= .bool j5.fol) rfl;have y3:=Blk.cell (hjb) 3 (v:= .int .i64 j5.cnt) rfl;have y4:=Blk.cell (hjb) 4 (v:= .string j5.seen) rfl;have y5:=Blk.cell (hjb) 5 (v:= .int .i64 (j5.lost:Int)) rfl;have b3:=Blk.set_ hjb 3 (.int .i64 count);have f3:=Blk.frozen hjb 3;have f4:=Blk.frozen hjb 4;have f5:=Blk.frozen b3 4;have y9:=Blk.cell b3 4 (v:= .string j5.seen) rfl;have n0:=Blk.cell (HMT.out.n) 0 (v:= .int .i64 count) rfl;have n1:=Blk.cell (HMT.out.n) 1 (v:= .string body) rfl;clear hjb b3
   go_upto_region 21 with fail
   clear y0 y1 y2 y3 y4 y5 y9 f3 f4 f5 n0 n1;refine wp_gen (fun V=>FdM w V g {j5 with cnt:=count,seen:=body} w.heap.size ⟨pid,start,count,false,body⟩ bn) (HMT.out.step (jn_set3 HMT.out.j.j count body)) ?_;intro WU hMU;clear HMT
   cases start with
   |false=>
    have x0:=Blk.cell (hMU.b) 0 (v:= .int .i64 pid) rfl;have x1:=Blk.cell (hMU.b) 1 (v:= .bool false) rfl;have x2:=Blk.cell (hMU.b) 2 (v:= .int .i64 count) rfl;have x3:=Blk.cell (hMU.b) 3 (v:= .bool false) rfl;have x4:=Blk.cell (hMU.b) 4 (v:= .string body) rfl;have ko:=onward_any WU g {j5 with cnt:=count,seen:=body} body 0 hMU.j.j (by have:=HBZ.out;have:=HH5.out;dsimp only;omega);dsimp only at ko;have HF:Hid (F=⟨onO j5.hold j5.fol body,onE j5.hold j5.fol body 0,⟨j5.pid,onH j5.hold j5.fol body,onF j5.hold j5.fol body,count,body,j5.lost⟩⟩):=Lib.hid (by rw[HFT.out];unfold fd2;rw[if_neg (fun h=>by cases h)]);have HMU:=Lib.hid hMU;obtain⟨o1,ho1⟩: ∃o,onO j5.hold j5.fol body=o:=⟨_,rfl⟩;obtain⟨e1,he1⟩: ∃o,onE j5.hold j5.fol body 0=o:=⟨_,rfl⟩;rw[ho1,he1]at ko HF;clear hMU ho1 he1
    go_wp2_with fail
    (with_reducible refine(ko).mono ?_);rintro e9 W9 hk
    obtain⟨⟨v,rfl,hown⟩,hj⟩:=hk;have hJ:=HMU.out.step hj;clear ko
    go_wp2_with fail
    rw[HR.out,HF.out];exact⟨⟨v,rfl,ApG.own_base hown HMU.out.j.k.size⟩,hJ.j⟩
   |true=>
    have x0:=fun pX=>Blk.cell (blk_ext (hMU.b) pX) 0 (v:= .int .i64 pid) rfl;have x1:=fun pX=>Blk.cell (blk_ext (hMU.b) pX) 1 (v:= .bool true) rfl;have x2:=fun pX=>Blk.cell (blk_ext (hMU.b) pX) 2 (v:= .int .i64 count) rfl;have x3:=fun pX=>Blk.cell (blk_ext (hMU.b) pX) 3 (v:= .bool false) rfl;have x4:=fun pX=>Blk.cell (blk_ext (hMU.b) pX) 4 (v:= .string body) rfl;have HMU:=Lib.hid hMU;have hb1:1≤body.size:=by have:=HB0.out;omega
    have i0: ∀V:World,(Instr.index 9 (.string body) (.int .i64 0)).run Tryz.prog V= .ok (.int .u8 (at0 body 0:Int)) V:=fun V=>idx_at body 0 (by omega) V
    have s1: ∀V:World,(Instr.slice 9 (.string body) (some (.int .i64 1)) none none).run Tryz.prog V= .ok (.string (body.extract 1 body.size)) V:=fun V=>by
     rw[run_slice_string_l V 9 body Tryz.underlying9 .i64 1 (by omega) (by omega)];rfl
    have HRS:Hid ((body.extract 1 body.size).size=body.size-1):=Lib.hid (by rw[ByteArray.size_extract];omega);have hr9:=at0_lt body 0;have HFT2:Hid (F=if body.size<at0 body 0+1 then⟨[],12,⟨j5.pid,nob,false,count,body,j5.lost⟩⟩else⟨onO j5.hold j5.fol (body.extract 1 (at0 body 0+1))++tkO (body.extract (at0 body 0+1) body.size) true,JnP.worse (tkE (body.extract (at0 body 0+1) body.size) true) (onE j5.hold j5.fol (body.extract 1 (at0 body 0+1)) 0),⟨j5.pid,tkH (body.extract (at0 body 0+1) body.size) true,tkF (body.extract (at0 body 0+1) body.size) true,count,body,j5.lost⟩⟩):=Lib.hid (by rw[HFT.out];unfold fd2;rw[if_pos rfl])
    have HXA:Hid (∀r,(body.extract 1 body.size).extract 0 r=body.extract 1 (r+1)∨body.size<r+1):=Lib.hid (fun r=>by
     by_cases h:body.size<r+1
     ·exact Or.inr h
     ·left
      exact bl_inj (by simp only[ext_bl];rw[List.drop_zero,List.take_take];congr 1;omega))
    have HXB:Hid (∀r,(body.extract 1 body.size).extract r (body.extract 1 body.size).size=body.extract (r+1) body.size):=Lib.hid (fun r=>bl_inj (by
     rw[HRS.out];simp only[ext_bl];rw[List.drop_take,List.drop_drop,List.take_take]
     congr 1
     ·omega
     ·congr 1;omega))
    obtain⟨r,hr⟩: ∃r,at0 body 0=r:=⟨_,rfl⟩;obtain⟨rest,hrest⟩: ∃x,body.extract 1 body.size=x:=⟨_,rfl⟩;rw[hr]at i0 hr9 HFT2;rw[hrest]at s1 HRS HXA HXB;have q9:=wrap63 r (by omega);have q8:(r:Int)≤255:=by omega
    have z0:=Blk.cell (hMU.b) 0 (v:= .int .i64 pid) rfl;have z1:=Blk.cell (hMU.b) 1 (v:= .bool true) rfl;have z2:=Blk.cell (hMU.b) 2 (v:= .int .i64 count) rfl;have z3:=Blk.cell (hMU.b) 3 (v:= .bool false) rfl;have z4:=Blk.cell (hMU.b) 4 (v:= .string body) rfl;clear hMU hr hrest HFT
    go_wp2_with fail
    clear z0 z1 z2 z3 z4;refine Go.Proofs.YtdbpkhnmhddmmaaGreatDoor.Q.region_ext (by kernel_rfl) (by kernel_rfl) ?_
    repeat (go_big_quiet_step (fail))
    refine wpQuiet_nil ?_;rintro w9 ⟨pq,rfl⟩;have HMV:=Lib.hid (HMU.out.below (below_ext WU pq));obtain⟨WV,hWV⟩: ∃W,ext WU pq=W:=⟨_,rfl⟩;rw[hWV]at HMV;rw[hWV];clear hWV HMU x0 x1 x2 x3 x4 i0 s1;by_cases hlt:body.size<r+1
    ·have t8:decide ((rest.size:Int)<(r:Int))=true:=decide_eq_true (by have:=HRS.out;omega)
     have t8':decide (rest.size<r)=true:=decide_eq_true (by have:=HRS.out;omega);have HF:=Lib.hid (HFT2.out.trans (if_pos hlt));have kl:=lose_any HMV.out.j.j;clear hlt HFT2
     go_wp2_with fail
     (with_reducible refine(kl).mono ?_);rintro e9 W9 ⟨rfl,hj⟩
     have hJ:=HMV.out.step hj;clear kl
     go_wp2_with fail
     rw[HR.out,HF.out];exact⟨⟨.slice none 0 0,rfl,World.ownsRow_nil _ _ _ _⟩,hJ.j⟩
    ·have t8:decide ((rest.size:Int)<(r:Int))=false:=decide_eq_false (by have:=HRS.out;omega)
     have t8':decide (rest.size<r)=false:=decide_eq_false (by have:=HRS.out;omega);have HF:=Lib.hid (HFT2.out.trans (if_neg hlt));have hrr:r≤rest.size:=by have:=HRS.out;omega
     have hrr':(r:Int)≤(rest.size:Int):=by omega
     have r0:(0:Int)≤(r:Int):=Int.natCast_nonneg _
     have s2: ∀V:World,(Instr.slice 9 (.string rest) none (some (.int .i64 (r:Int))) none).run Tryz.prog V= .ok (.string (rest.extract 0 r)) V:=fun V=>by
      rw[run_slice_string_h V 9 rest Tryz.underlying9 .i64 (r:Int) (by omega) (by omega),Int.toNat_natCast]
     have s3: ∀V:World,(Instr.slice 9 (.string rest) (some (.int .i64 (r:Int))) none none).run Tryz.prog V= .ok (.string (rest.extract r rest.size)) V:=fun V=>by
      rw[run_slice_string_l V 9 rest Tryz.underlying9 .i64 (r:Int) (by omega) (by omega),Int.toNat_natCast]
     rw[(HXA.out r).resolve_right hlt]at s2;rw[HXB.out r]at s3;obtain⟨A,hA⟩: ∃A,body.extract 1 (r+1)=A:=⟨_,rfl⟩;obtain⟨B,hB⟩: ∃A,body.extract (r+1) body.size=A:=⟨_,rfl⟩;have hAz:A.size≤184:=by rw[←hA,ByteArray.size_extract];have:=HBZ.out;omega
     have hBz:B.size≤184:=by rw[←hB,ByteArray.size_extract];have:=HBZ.out;omega
     rw[hA]at s2;rw[hB]at s3;rw[hA,hB]at HF;have ko:=onward_any WV g {j5 with cnt:=count,seen:=body} A 0 HMV.out.j.j (by have:=HH5.out;dsimp only;omega);dsimp only at ko;obtain⟨O1,hO1⟩: ∃o,onO j5.hold j5.fol A=o:=⟨_,rfl⟩;obtain⟨E1,hE1⟩: ∃o,onE j5.hold j5.fol A 0=o:=⟨_,rfl⟩;obtain⟨H1,hH1⟩: ∃o,onH j5.hold j5.fol A=o:=⟨_,rfl⟩;obtain⟨F1,hF1⟩: ∃o,onF j5.hold j5.fol A=o:=⟨_,rfl⟩;rw[hO1,hE1]at HF;rw[hO1,hE1,hH1,hF1]at ko;have HO1:Hid (O1.length≤900000):=Lib.hid (by rw[←hO1];have h1:=onO_len j5.hold j5.fol A;have h2:=HH5.out;omega);have HBZ2:=Lib.hid hBz;clear hlt HFT2 HXA HXB hA hB hO1 hE1 hH1 hF1 hAz hBz
     go_wp2_with fail
     (with_reducible refine(ko).mono ?_);rintro e9 W9 hk
     obtain⟨⟨v1,rfl,hown1⟩,hj⟩:=hk;obtain⟨va1,vc1,rfl⟩:=Ap.own_form hown1;have HM9:=Lib.hid (HMV.out.step hj);have HW1:=Lib.hid (ApG.own_base hown1 HMV.out.j.k.size);have hjb:Blk W9 g 86 #[.int .i64 j5.pid,.string H1,.bool F1,.int .i64 count,.string body,.int .i64 (j5.lost:Int)]:=HM9.out.j.j;have b1:=Blk.set_ hjb 1 (.string nob);have f1:=Blk.frozen hjb 1;have y1:=Blk.cell hjb 1 (v:= .string H1) rfl;have f2:=Blk.frozen b1 2;have y2:=Blk.cell b1 2 (v:= .bool F1) rfl;have g2:=Blk.frozen hjb 2;have z2:=Blk.cell hjb 2 (v:= .bool F1) rfl;clear ko hown1 hj hjb b1
     go_upto_region 29 with fail
     clear f1 y1 f2 y2 g2 z2;have HKS:=Lib.hid (jn_set1 HM9.out.j.j);have HOS:=Lib.hid (FrA.own_kept HW1.out HKS.out.k (fun i hi e=>by subst e;have:=(HW1.out.lt _ hi).1;omega));refine wp_gen (fun V=>FdM w V g {j5 with cnt:=count,seen:=body,hold:=nob,fol:=true} w.heap.size ⟨pid,true,count,false,body⟩ bn∧V.ownsRow w.heap.size 9 1 (.slice va1 O1.length vc1) O1.length (flat enS O1)) ⟨HM9.out.step HKS.out,HOS.out⟩ ?_;rintro WX ⟨hMX,hownX⟩;have kt:=take_any WX g {j5 with cnt:=count,seen:=body,hold:=nob,fol:=true} B hMX.j.j (by have:=HBZ2.out;show(0:Nat)+B.size≤900000;omega);dsimp only at kt;rw[show nob++B=B from bl_inj (by rw[bl_app];rfl)]at kt;have HMX:=Lib.hid hMX;have HOX:=Lib.hid hownX;clear hMX hownX HM9 HW1 HKS HOS
     go_wp2_with fail
     (with_reducible refine(kt).mono ?_);rintro e8 W8 hk
     obtain⟨⟨v2,rfl,hown2⟩,hj2⟩:=hk;have HM8:=Lib.hid (HMX.out.step hj2);have HO8:=Lib.hid (FrA.own_kept HOX.out hj2.k (fun i hi e=>by subst e;have:=(HOX.out.lt _ hi).1;omega));obtain⟨O2,hO2⟩: ∃o,tkO B true=o:=⟨_,rfl⟩;obtain⟨E2,hE2⟩: ∃o,tkE B true=o:=⟨_,rfl⟩;rw[hO2]at hown2 HF;rw[hE2]at HF ⊢;obtain⟨a2,c2,rfl,hsl⟩:=BuE.own_slc hown2 rfl;have HSL:=Lib.hid hsl;have hz8:=HM8.out.j.k.size;have HO2:Hid (O2.length≤900000):=Lib.hid (by rw[←hO2];have h1:=tkO_len B true;have h2:=HBZ2.out;omega);have hlen1:=HO1.out;have hlen2:=HO2.out;clear kt hown2 hj2 hsl HOX hO2 hE2
     go_wp2_with (at_builtin;go_loud (refine wpList_appS (en:=enS) (A:=O1) (L:=O2) (base:=w.heap.size) rfl _ _ rfl BuE.enS_one BuE.enS_cell elemLS rfl rfl HO8.out rfl HSL.out.len HSL.out.nil HSL.out.s HSL.out.form (by omega) (by unfold maxLen;omega) hz8 ?_))
     intro v7 W7 hown7 hb7;have HM7:=Lib.hid (show JnOk w W7 g _ from⟨Blk.below HM8.out.j.j hb7 hgw,HM8.out.j.k.then hb7⟩);have HO7:=Lib.hid hown7;have kw:=worse_any E2 E1 W7;clear hown7 hb7 HO8 HM8 HSL hlen1 hlen2
     go_wp2_with fail
     (with_reducible refine(kw).mono ?_);rintro e6 W6 ⟨rfl,rfl⟩
     clear kw
     go_wp2_with fail
     rw[HR.out,HF.out];exact⟨⟨v7,rfl,by rw[List.length_append];exact HO7.out⟩,HM7.out⟩
  ·have t7:(count !=(j.cnt+1)%16)=true:=bne_iff_ne.2 hg1
   have t7':(count !=(j.cnt+1).tmod 16)=true:=by rw[Int.tmod_eq_emod_of_nonneg (by omega)];exact t7
   have HFT0:=Lib.hid (HFE5.out.trans (if_pos (by rw[HGE.out,decide_eq_false hg0,decide_eq_true hg1];rfl)));clear hg0 hg1 HFE5 HGE hc
   go_wp2_with fail
   refine Go.Proofs.YtdbpkhnmhddmmaaGreatDoor.Q.region_ext (by kernel_rfl) (by kernel_rfl) ?_
   repeat (go_big_quiet_step (fail))
   refine wpQuiet_nil ?_;rintro w9 ⟨ps,rfl⟩;have HM5:=Lib.hid (HM4.out.below (below_ext W4 ps));obtain⟨W5,hW5⟩: ∃W,ext W4 ps=W:=⟨_,rfl⟩;rw[hW5]at HM5;rw[hW5];clear hW5 HM4 x0 x1 x2 x3 x4 y0 y1 y2 y3 y4 y5 eq t7 t7' hc1 hc2 hj1;have kl:=lose_any HM5.out.j.j
   go_wp2_with fail
   (with_reducible refine(kl).mono ?_);rintro e9 W9 ⟨rfl,hj⟩
   have hJ:=HM5.out.step hj;have hjb:Blk W9 g 86 #[.int .i64 j.pid,.string nob,.bool false,.int .i64 j.cnt,.string j.seen,.int .i64 (j.lost:Int)]:=hj.j;have y5:=Blk.cell hjb 5 (v:= .int .i64 (j.lost:Int)) rfl;have f5:=Blk.frozen hjb 5;have hl2:(j.lost:Int)≤1000000000:=by omega
   have hl3:(0:Int)≤(j.lost:Int):=Int.natCast_nonneg _;have HJ2:=Lib.hid (hJ.step (jn_set5 hJ.j.j));clear kl hj hjb hJ HM5
   go_upto_region 20 with fail
   clear y5 f5 hl2 hl3;refine wp_gen (fun V=>FdM w V g {j with hold:=nob,fol:=false,lost:=j.lost+1} w.heap.size ⟨pid,start,count,false,body⟩ bn) HJ2.out ?_;intro WT hMT;have HMT:=Lib.hid hMT;obtain⟨j5,hj5⟩: ∃j5:Jn,({j with hold:=nob,fol:=false,lost:=j.lost+1}:Jn)=j5:=⟨_,rfl⟩;have HFT:Hid (F=fd2 j5 ⟨pid,start,count,false,body⟩ 21 j5.lost j5.hold j5.fol):=Lib.hid (by rw[HFT0.out,←hj5];rfl);have HH5:Hid (j5.hold.size≤800000):=Lib.hid (by rw[←hj5];show(0:Nat)≤800000;omega);rw[hj5]at HMT;clear hMT HJ2 HFT0 hj5;have hjb:Blk WT g 86 #[.int .i64 j5.pid,.string j5.hold,.bool j5.fol,.int .i64 j5.cnt,.string j5.seen,.int .i64 (j5.lost:Int)]:=HMT.out.j.j;have y0:=Blk.cell (hjb) 0 (v:= .int .i64 j5.pid) rfl;have y1:=Blk.cell (hjb) 1 (v:= .string j5.hold) rfl;have y2:=Blk.cell (hjb) 2 (v:= .bool j5.fol) rfl;have y3:=Blk.cell (hjb) 3 (v:= .int .i64 j5.cnt) rfl;have y4:=Blk.cell (hjb) 4 (v:= .string j5.seen) rfl;have y5:=Blk.cell (hjb) 5 (v:= .int .i64 (j5.lost:Int)) rfl;have b3:=Blk.set_ hjb 3 (.int .i64 count);have f3:=Blk.frozen hjb 3;have f4:=Blk.frozen hjb 4;have f5:=Blk.frozen b3 4;have y9:=Blk.cell b3 4 (v:= .string j5.seen) rfl;have n0:=Blk.cell (HMT.out.n) 0 (v:= .int .i64 count) rfl;have n1:=Blk.cell (HMT.out.n) 1 (v:= .string body) rfl;clear hjb b3
   go_upto_region 21 with fail
   clear y0 y1 y2 y3 y4 y5 y9 f3 f4 f5 n0 n1;refine wp_gen (fun V=>FdM w V g {j5 with cnt:=count,seen:=body} w.heap.size ⟨pid,start,count,false,body⟩ bn) (HMT.out.step (jn_set3 HMT.out.j.j count body)) ?_;intro WU hMU;clear HMT
   cases start with
   |false=>
    have x0:=Blk.cell (hMU.b) 0 (v:= .int .i64 pid) rfl;have x1:=Blk.cell (hMU.b) 1 (v:= .bool false) rfl;have x2:=Blk.cell (hMU.b) 2 (v:= .int .i64 count) rfl;have x3:=Blk.cell (hMU.b) 3 (v:= .bool false) rfl;have x4:=Blk.cell (hMU.b) 4 (v:= .string body) rfl;have ko:=onward_any WU g {j5 with cnt:=count,seen:=body} body 21 hMU.j.j (by have:=HBZ.out;have:=HH5.out;dsimp only;omega);dsimp only at ko;have HF:Hid (F=⟨onO j5.hold j5.fol body,onE j5.hold j5.fol body 21,⟨j5.pid,onH j5.hold j5.fol body,onF j5.hold j5.fol body,count,body,j5.lost⟩⟩):=Lib.hid (by rw[HFT.out];unfold fd2;rw[if_neg (fun h=>by cases h)]);have HMU:=Lib.hid hMU;obtain⟨o1,ho1⟩: ∃o,onO j5.hold j5.fol body=o:=⟨_,rfl⟩;obtain⟨e1,he1⟩: ∃o,onE j5.hold j5.fol body 21=o:=⟨_,rfl⟩;rw[ho1,he1]at ko HF;clear hMU ho1 he1
    go_wp2_with fail
    (with_reducible refine(ko).mono ?_);rintro e9 W9 hk
    obtain⟨⟨v,rfl,hown⟩,hj⟩:=hk;have hJ:=HMU.out.step hj;clear ko
    go_wp2_with fail
    rw[HR.out,HF.out];exact⟨⟨v,rfl,ApG.own_base hown HMU.out.j.k.size⟩,hJ.j⟩
   |true=>
    have x0:=fun pX=>Blk.cell (blk_ext (hMU.b) pX) 0 (v:= .int .i64 pid) rfl;have x1:=fun pX=>Blk.cell (blk_ext (hMU.b) pX) 1 (v:= .bool true) rfl;have x2:=fun pX=>Blk.cell (blk_ext (hMU.b) pX) 2 (v:= .int .i64 count) rfl;have x3:=fun pX=>Blk.cell (blk_ext (hMU.b) pX) 3 (v:= .bool false) rfl;have x4:=fun pX=>Blk.cell (blk_ext (hMU.b) pX) 4 (v:= .string body) rfl;have HMU:=Lib.hid hMU;have hb1:1≤body.size:=by have:=HB0.out;omega
    have i0: ∀V:World,(Instr.index 9 (.string body) (.int .i64 0)).run Tryz.prog V= .ok (.int .u8 (at0 body 0:Int)) V:=fun V=>idx_at body 0 (by omega) V
    have s1: ∀V:World,(Instr.slice 9 (.string body) (some (.int .i64 1)) none none).run Tryz.prog V= .ok (.string (body.extract 1 body.size)) V:=fun V=>by
     rw[run_slice_string_l V 9 body Tryz.underlying9 .i64 1 (by omega) (by omega)];rfl
    have HRS:Hid ((body.extract 1 body.size).size=body.size-1):=Lib.hid (by rw[ByteArray.size_extract];omega);have hr9:=at0_lt body 0;have HFT2:Hid (F=if body.size<at0 body 0+1 then⟨[],12,⟨j5.pid,nob,false,count,body,j5.lost⟩⟩else⟨onO j5.hold j5.fol (body.extract 1 (at0 body 0+1))++tkO (body.extract (at0 body 0+1) body.size) true,JnP.worse (tkE (body.extract (at0 body 0+1) body.size) true) (onE j5.hold j5.fol (body.extract 1 (at0 body 0+1)) 21),⟨j5.pid,tkH (body.extract (at0 body 0+1) body.size) true,tkF (body.extract (at0 body 0+1) body.size) true,count,body,j5.lost⟩⟩):=Lib.hid (by rw[HFT.out];unfold fd2;rw[if_pos rfl])
    have HXA:Hid (∀r,(body.extract 1 body.size).extract 0 r=body.extract 1 (r+1)∨body.size<r+1):=Lib.hid (fun r=>by
     by_cases h:body.size<r+1
     ·exact Or.inr h
     ·left
      exact bl_inj (by simp only[ext_bl];rw[List.drop_zero,List.take_take];congr 1;omega))
    have HXB:Hid (∀r,(body.extract 1 body.size).extract r (body.extract 1 body.size).size=body.extract (r+1) body.size):=Lib.hid (fun r=>bl_inj (by
     rw[HRS.out];simp only[ext_bl];rw[List.drop_take,List.drop_drop,List.take_take]
     congr 1
     ·omega
     ·congr 1;omega))
    obtain⟨r,hr⟩: ∃r,at0 body 0=r:=⟨_,rfl⟩;obtain⟨rest,hrest⟩: ∃x,body.extract 1 body.size=x:=⟨_,rfl⟩;rw[hr]at i0 hr9 HFT2;rw[hrest]at s1 HRS HXA HXB;have q9:=wrap63 r (by omega);have q8:(r:Int)≤255:=by omega
    have z0:=Blk.cell (hMU.b) 0 (v:= .int .i64 pid) rfl;have z1:=Blk.cell (hMU.b) 1 (v:= .bool true) rfl;have z2:=Blk.cell (hMU.b) 2 (v:= .int .i64 count) rfl;have z3:=Blk.cell (hMU.b) 3 (v:= .bool false) rfl;have z4:=Blk.cell (hMU.b) 4 (v:= .string body) rfl;clear hMU hr hrest HFT
    go_wp2_with fail
    clear z0 z1 z2 z3 z4;refine Go.Proofs.YtdbpkhnmhddmmaaGreatDoor.Q.region_ext (by kernel_rfl) (by kernel_rfl) ?_
    repeat (go_big_quiet_step (fail))
    refine wpQuiet_nil ?_;rintro w9 ⟨pq,rfl⟩;have HMV:=Lib.hid (HMU.out.below (below_ext WU pq));obtain⟨WV,hWV⟩: ∃W,ext WU pq=W:=⟨_,rfl⟩;rw[hWV]at HMV;rw[hWV];clear hWV HMU x0 x1 x2 x3 x4 i0 s1;by_cases hlt:body.size<r+1
    ·have t8:decide ((rest.size:Int)<(r:Int))=true:=decide_eq_true (by have:=HRS.out;omega)
     have t8':decide (rest.size<r)=true:=decide_eq_true (by have:=HRS.out;omega);have HF:=Lib.hid (HFT2.out.trans (if_pos hlt));have kl:=lose_any HMV.out.j.j;clear hlt HFT2
     go_wp2_with fail
     (with_reducible refine(kl).mono ?_);rintro e9 W9 ⟨rfl,hj⟩
     have hJ:=HMV.out.step hj;clear kl
     go_wp2_with fail
     rw[HR.out,HF.out];exact⟨⟨.slice none 0 0,rfl,World.ownsRow_nil _ _ _ _⟩,hJ.j⟩
    ·have t8:decide ((rest.size:Int)<(r:Int))=false:=decide_eq_false (by have:=HRS.out;omega)
     have t8':decide (rest.size<r)=false:=decide_eq_false (by have:=HRS.out;omega);have HF:=Lib.hid (HFT2.out.trans (if_neg hlt));have hrr:r≤rest.size:=by have:=HRS.out;omega
     have hrr':(r:Int)≤(rest.size:Int):=by omega
     have r0:(0:Int)≤(r:Int):=Int.natCast_nonneg _
     have s2: ∀V:World,(Instr.slice 9 (.string rest) none (some (.int .i64 (r:Int))) none).run Tryz.prog V= .ok (.string (rest.extract 0 r)) V:=fun V=>by
      rw[run_slice_string_h V 9 rest Tryz.underlying9 .i64 (r:Int) (by omega) (by omega),Int.toNat_natCast]
     have s3: ∀V:World,(Instr.slice 9 (.string rest) (some (.int .i64 (r:Int))) none none).run Tryz.prog V= .ok (.string (rest.extract r rest.size)) V:=fun V=>by
      rw[run_slice_string_l V 9 rest Tryz.underlying9 .i64 (r:Int) (by omega) (by omega),Int.toNat_natCast]
     rw[(HXA.out r).resolve_right hlt]at s2;rw[HXB.out r]at s3;obtain⟨A,hA⟩: ∃A,body.extract 1 (r+1)=A:=⟨_,rfl⟩;obtain⟨B,hB⟩: ∃A,body.extract (r+1) body.size=A:=⟨_,rfl⟩;have hAz:A.size≤184:=by rw[←hA,ByteArray.size_extract];have:=HBZ.out;omega
     have hBz:B.size≤184:=by rw[←hB,ByteArray.size_extract];have:=HBZ.out;omega
     rw[hA]at s2;rw[hB]at s3;rw[hA,hB]at HF;have ko:=onward_any WV g {j5 with cnt:=count,seen:=body} A 21 HMV.out.j.j (by have:=HH5.out;dsimp only;omega);dsimp only at ko;obtain⟨O1,hO1⟩: ∃o,onO j5.hold j5.fol A=o:=⟨_,rfl⟩;obtain⟨E1,hE1⟩: ∃o,onE j5.hold j5.fol A 21=o:=⟨_,rfl⟩;obtain⟨H1,hH1⟩: ∃o,onH j5.hold j5.fol A=o:=⟨_,rfl⟩;obtain⟨F1,hF1⟩: ∃o,onF j5.hold j5.fol A=o:=⟨_,rfl⟩;rw[hO1,hE1]at HF;rw[hO1,hE1,hH1,hF1]at ko;have HO1:Hid (O1.length≤900000):=Lib.hid (by rw[←hO1];have h1:=onO_len j5.hold j5.fol A;have h2:=HH5.out;omega);have HBZ2:=Lib.hid hBz;clear hlt HFT2 HXA HXB hA hB hO1 hE1 hH1 hF1 hAz hBz
     go_wp2_with fail
     (with_reducible refine(ko).mono ?_);rintro e9 W9 hk
     obtain⟨⟨v1,rfl,hown1⟩,hj⟩:=hk;obtain⟨va1,vc1,rfl⟩:=Ap.own_form hown1;have HM9:=Lib.hid (HMV.out.step hj);have HW1:=Lib.hid (ApG.own_base hown1 HMV.out.j.k.size);have hjb:Blk W9 g 86 #[.int .i64 j5.pid,.string H1,.bool F1,.int .i64 count,.string body,.int .i64 (j5.lost:Int)]:=HM9.out.j.j;have b1:=Blk.set_ hjb 1 (.string nob);have f1:=Blk.frozen hjb 1;have y1:=Blk.cell hjb 1 (v:= .string H1) rfl;have f2:=Blk.frozen b1 2;have y2:=Blk.cell b1 2 (v:= .bool F1) rfl;have g2:=Blk.frozen hjb 2;have z2:=Blk.cell hjb 2 (v:= .bool F1) rfl;clear ko hown1 hj hjb b1
     go_upto_region 29 with fail
     clear f1 y1 f2 y2 g2 z2;have HKS:=Lib.hid (jn_set1 HM9.out.j.j);have HOS:=Lib.hid (FrA.own_kept HW1.out HKS.out.k (fun i hi e=>by subst e;have:=(HW1.out.lt _ hi).1;omega));refine wp_gen (fun V=>FdM w V g {j5 with cnt:=count,seen:=body,hold:=nob,fol:=true} w.heap.size ⟨pid,true,count,false,body⟩ bn∧V.ownsRow w.heap.size 9 1 (.slice va1 O1.length vc1) O1.length (flat enS O1)) ⟨HM9.out.step HKS.out,HOS.out⟩ ?_;rintro WX ⟨hMX,hownX⟩;have kt:=take_any WX g {j5 with cnt:=count,seen:=body,hold:=nob,fol:=true} B hMX.j.j (by have:=HBZ2.out;show(0:Nat)+B.size≤900000;omega);dsimp only at kt;rw[show nob++B=B from bl_inj (by rw[bl_app];rfl)]at kt;have HMX:=Lib.hid hMX;have HOX:=Lib.hid hownX;clear hMX hownX HM9 HW1 HKS HOS
     go_wp2_with fail
     (with_reducible refine(kt).mono ?_);rintro e8 W8 hk
     obtain⟨⟨v2,rfl,hown2⟩,hj2⟩:=hk;have HM8:=Lib.hid (HMX.out.step hj2);have HO8:=Lib.hid (FrA.own_kept HOX.out hj2.k (fun i hi e=>by subst e;have:=(HOX.out.lt _ hi).1;omega));obtain⟨O2,hO2⟩: ∃o,tkO B true=o:=⟨_,rfl⟩;obtain⟨E2,hE2⟩: ∃o,tkE B true=o:=⟨_,rfl⟩;rw[hO2]at hown2 HF;rw[hE2]at HF ⊢;obtain⟨a2,c2,rfl,hsl⟩:=BuE.own_slc hown2 rfl;have HSL:=Lib.hid hsl;have hz8:=HM8.out.j.k.size;have HO2:Hid (O2.length≤900000):=Lib.hid (by rw[←hO2];have h1:=tkO_len B true;have h2:=HBZ2.out;omega);have hlen1:=HO1.out;have hlen2:=HO2.out;clear kt hown2 hj2 hsl HOX hO2 hE2
     go_wp2_with (at_builtin;go_loud (refine wpList_appS (en:=enS) (A:=O1) (L:=O2) (base:=w.heap.size) rfl _ _ rfl BuE.enS_one BuE.enS_cell elemLS rfl rfl HO8.out rfl HSL.out.len HSL.out.nil HSL.out.s HSL.out.form (by omega) (by unfold maxLen;omega) hz8 ?_))
     intro v7 W7 hown7 hb7;have HM7:=Lib.hid (show JnOk w W7 g _ from⟨Blk.below HM8.out.j.j hb7 hgw,HM8.out.j.k.then hb7⟩);have HO7:=Lib.hid hown7;have kw:=worse_any E2 E1 W7;clear hown7 hb7 HO8 HM8 HSL hlen1 hlen2
     go_wp2_with fail
     (with_reducible refine(kw).mono ?_);rintro e6 W6 ⟨rfl,rfl⟩
     clear kw
     go_wp2_with fail
     rw[HR.out,HF.out];exact⟨⟨v7,rfl,by rw[List.length_append];exact HO7.out⟩,HM7.out⟩
end Go.Proofs.YtdbpkhnmhddmmaaGreatDoor.JnD
