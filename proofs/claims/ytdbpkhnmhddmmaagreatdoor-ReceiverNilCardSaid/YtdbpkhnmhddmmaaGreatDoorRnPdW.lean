import Derived.Test.YtdbpkhnmhddmmaaGreatDoorRnPdP
namespace Go.Proofs.YtdbpkhnmhddmmaaGreatDoor.PdW
open Go Go.RowKit Q Mem Rg Ap St BiA BiG BiH SeG SeI CrB JnP PdP PkE
def of (k:Nat):Nat:=[0,8,9,10,11,24,26,28,32].getD k 0
def fl (k:Nat):Nat:=wd.getD k 0
def fld (t:ByteArray) (k:Nat):Nat:=gb t (of k) (fl k)
def xs (t:ByteArray) (k:Nat):Array Value:=((List.range 8).map (fun i=>if i<k then Value.int .i64 (fld t i:Int)else Value.int .i64 0)).toArray
theorem fields (t:ByteArray):fld t 1=at0 t 1/128∧fld t 2=at0 t 1/64%2∧fld t 4=at0 t 1%32*256+at0 t 2∧fld t 6=at0 t 3/16%4∧fld t 7=at0 t 3%16:=by
 have l1:=at0_lt t 1;refine⟨?_,?_,?_,?_,?_⟩
 ·have:=gb_in t 1 0 1 (by omega);simp at this;show gb t 8 1=_;rw[this];omega
 ·have:=gb_in t 1 1 1 (by omega);show gb t 9 1=_;simpa using this
 ·show gb t 11 13=_
  have h:=gb_split t 11 5 8;have h1:=gb_in t 1 3 5 (by omega);have h2:=gb_byte t 2;simp only[Nat.reduceMul,Nat.reduceAdd,Nat.reducePow,Nat.reduceSub,Nat.div_one]at h h1 h2;rw[h,h1,h2]
 ·have:=gb_in t 3 2 2 (by omega);show gb t 26 2=_;simpa using this
 ·have:=gb_in t 3 4 4 (by omega);show gb t 28 4=_;simpa using this
theorem fl_of {k:Nat} (h:k<8):wd[k]? =some (fl k)∧of (k+1)=of k+fl k∧fl k≤16∧of k+fl k≤32:=by
 match k,h with
 |0,_|1,_|2,_|3,_|4,_|5,_|6,_|7,_=>decide
theorem xs_put (t:ByteArray) {k:Nat} (h:k<8):(xs t k).setIfInBounds k (.int .i64 (fld t k:Int))=xs t (k+1):=by
 match k,h with
 |0,_|1,_|2,_|3,_|4,_|5,_|6,_|7,_=>rfl
theorem idx_wd {k:Nat} (h:k<8) (V:World):(Instr.index 150 (.agg #[.int .i64 8,.int .i64 1,.int .i64 1,.int .i64 1,.int .i64 13,.int .i64 2,.int .i64 2,.int .i64 4]) (.int .i64 (k:Int))).run Tryz.prog V= .ok (.int .i64 (fl k:Int)) V:=by
 match k,h with
 |0,_|1,_|2,_|3,_|4,_|5,_|6,_|7,_=>(show(_:Result Value)=_;kernel_rfl)
theorem xs_at (t:ByteArray) {k:Nat} (h:k<8):(xs t k)[k]? =some (.int .i64 0):=by
 match k,h with
 |0,_|1,_|2,_|3,_|4,_|5,_|6,_|7,_=>rfl
def zpk:Array Value:= #[.int .i64 0,.bool false,.int .i64 0,.bool false,.string nob]
structure PdM (w W:World) (t:ByteArray) (k:Nat):Prop where
 r:Blk W (w.heap.size+1) 237 (inC (of k) t)
 x:Blk W (w.heap.size+1+1) 150 (xs t k)
 s:Blk W w.heap.size 80 zpk
 be:Below w.heap.size w W
theorem PdM.get {w W W':World} {t:ByteArray} {k:Nat} (h:PdM w W t k) (hk:k<8) (hr:Blk W' (w.heap.size+1) 237 (inC (of k+fl k) t)) (hg:W.grownBy W' (some (w.heap.size+1))):
 PdM w (W'.setCell ⟨w.heap.size+1+1,k,none⟩ (.int .i64 (fld t k:Int))) t (k+1):=by
 have hx:=Blk.grown h.x hg (by simp);have hs:=Blk.grown h.s hg (by simp);refine⟨?_,?_,Blk.far hs (by show w.heap.size≠w.heap.size+1+1;omega) _,?_⟩
 ·rw[(fl_of hk).2.1]
  exact Blk.far hr (by simp) _
 ·have:=Blk.set_ hx k (.int .i64 (fld t k:Int))
  rw[xs_put t hk]at this;exact this
 ·exact(h.be.trans (below_of_only hg h.be.size (fun k hk=>by injection hk with hk;omega))).setCell (p:=⟨w.heap.size+1+1,k,none⟩) (by show w.heap.size≤w.heap.size+1+1;omega) _
set_option maxRecDepth 100000
set_option maxHeartbeats 3200000 in
theorem pdec_any (t:ByteArray) (w:World) (hs:t.size≤1099511627776) (hW:Wid 0 w):
 Calls Tryz.prog 43 #[.string t] w fun e w'=>e= .returned (.tuple #[.agg (PdP.Pk.vals (dpP t)),.int .i64 (dpE t)])∧Below w.heap.size w w':=by
 have HB:=Lib.hid (bk1 w 80 #[.int .i64 0,.bool false,.int .i64 0,.bool false,.string nob]);by_cases h1:t.size<188
 ·have t1:decide ((t.size:Int)<188)=true:=decide_eq_true (by omega)
  have t1':decide (t.size<188)=true:=decide_eq_true h1;have HE:=Lib.hid (show dpE t=10 from by unfold dpE;rw[if_pos h1]);clear h1 hW;have HX:=Lib.hid (show dpP t=zPk from by unfold dpP;rw[if_pos (by rw[HE.out];decide)])
  go_enter Tryz.func43,Tryz.ntmps43
  go_wp2_with fail
  exact bodyPost_ret (v:= .tuple #[.agg #[.int .i64 0,.bool false,.int .i64 0,.bool false,.string nob],.int .i64 10]) (by refine res_row (fn:=Tryz.f43) (p:=2) (q:=3) rfl _ _ w.heap.size 80 _ (0,0) _ ?_ (HB.out.nth 0 rfl) Tryz.underlying80 rfl (by kernel_rfl);rfl) rfl ⟨by rw[HX.out,HE.out];rfl,HB.out.be⟩
 have t1:decide ((t.size:Int)<188)=false:=decide_eq_false (by omega);have t1':decide (t.size<188)=false:=decide_eq_false h1;by_cases h2:188<t.size
 ·have t2:decide ((188:Int)<(t.size:Int))=true:=decide_eq_true (by omega)
  have t2':decide (188<t.size)=true:=decide_eq_true h2;have HE:=Lib.hid (show dpE t=11 from by unfold dpE;rw[if_neg h1,if_pos h2]);clear h1 h2 hW;have HX:=Lib.hid (show dpP t=zPk from by unfold dpP;rw[if_pos (by rw[HE.out];decide)])
  go_enter Tryz.func43,Tryz.ntmps43
  go_wp2_with fail
  exact bodyPost_ret (v:= .tuple #[.agg #[.int .i64 0,.bool false,.int .i64 0,.bool false,.string nob],.int .i64 11]) (by refine res_row (fn:=Tryz.f43) (p:=2) (q:=3) rfl _ _ w.heap.size 80 _ (0,0) _ ?_ (HB.out.nth 0 rfl) Tryz.underlying80 rfl (by kernel_rfl);rfl) rfl ⟨by rw[HX.out,HE.out];rfl,HB.out.be⟩
 have t2:decide ((188:Int)<(t.size:Int))=false:=decide_eq_false (by omega);have t2':decide (188<t.size)=false:=decide_eq_false h2;have i0: ∀V:World,(Instr.index 9 (.string t) (.int .i64 0)).run Tryz.prog V= .ok (.int .u8 (at0 t 0:Int)) V:=fun V=>idx_at t 0 (by omega) V;by_cases h3:at0 t 0=71
 case neg=>
  have HE:=Lib.hid (show dpE t=20 from by unfold dpE;rw[if_neg h1,if_neg h2,if_pos h3]);obtain⟨c,hc⟩: ∃c,at0 t 0=c:=⟨_,rfl⟩;rw[hc]at i0 h3;have t3:((c:Int)!=71)=true:=bne_iff_ne.2 (by omega);clear h1 h2 h3 hW hc;have HX:=Lib.hid (show dpP t=zPk from by unfold dpP;rw[if_pos (by rw[HE.out];decide)])
  go_enter Tryz.func43,Tryz.ntmps43
  go_wp2_with fail
  exact bodyPost_ret (v:= .tuple #[.agg #[.int .i64 0,.bool false,.int .i64 0,.bool false,.string nob],.int .i64 20]) (by refine res_row (fn:=Tryz.f43) (p:=2) (q:=3) rfl _ _ w.heap.size 80 _ (0,0) _ ?_ (HB.out.nth 0 rfl) Tryz.underlying80 rfl (by kernel_rfl);rfl) rfl ⟨by rw[HX.out,HE.out];rfl,HB.out.be⟩
 have j0: ∀V:World,(Instr.index 9 (.string t) (.int .i64 0)).run Tryz.prog V= .ok (.int .u8 71) V:=fun V=>by have:=idx_at t 0 (by omega) V;rw[at0_at,h3]at this;exact this
 clear i0;have HE0:Hid (dpE t=if at0 t 3/16%4=1 then 0 else if at0 t 3/16%4=2 then(if at0 t 4≠183 then 12 else 0)else if at0 t 3/16%4=3 then(if 183≤at0 t 4 then 12 else 0)else 12):=Lib.hid (by unfold dpE;rw[if_neg h1,if_neg h2,if_neg (fun h=>h h3)]);have HBO:Hid (dpB t=if at0 t 3/16%4=1 then t.extract 4 t.size else if at0 t 3/16%4=3 then t.extract (5+at0 t 4) t.size else nob):=Lib.hid rfl;have hsz:t.size=188:=by omega
 have HSZ:=Lib.hid hsz;have kr:=fun V=>read_any t V
 have HM0:Hid (PdM w (((w.alloc (.cells #[.int .i64 0,.bool false,.int .i64 0,.bool false,.string nob] 80)).alloc (.cells (inC 0 t) 237)).alloc (.cells (xs t 0) 150)) t 0):=Lib.hid (by
  have h9:=bk3 w 80 237 150 zpk (inC 0 t) (xs t 0);exact⟨h9.nth 1 rfl,h9.nth 0 rfl,h9.nth 2 rfl,h9.be⟩)
 have HWD:=Lib.hid hW;obtain⟨F1,F2,F4,F6,F7⟩:=fields t;have HF:=Lib.hid (And.intro F1 (And.intro F2 (And.intro F4 (And.intro F6 F7))));clear h1 h2 h3 hsz hW F1 F2 F4 F6 F7
 go_enter Tryz.func43,Tryz.ntmps43
 go_wp2_with fail
 (with_reducible refine(kr _).mono ?_);rintro e1 W1 ⟨rfl,rfl⟩
 clear kr
 go_upto_region 9 with fail
 refine wp_gen (fun V=>PdM w V t 0) HM0.out ?_;intro V hM;have hwd:=HWD.out.be hM.be;have q0:=hwd.c 0 8 rfl;have q1:=hwd.c 1 1 rfl;have q2:=hwd.c 2 1 rfl;have q3:=hwd.c 3 1 rfl;have q4:=hwd.c 4 13 rfl;have q5:=hwd.c 5 2 rfl;have q6:=hwd.c 6 2 rfl;have q7:=hwd.c 7 4 rfl;have HM:=Lib.hid hM;clear hM hwd HM0 HWD HB
 go_wp2_with fail
 go_loopw [28] (fun iv wr=> ∃k:Nat,k≤8∧iv= .int .i64 k∧PdM w wr t k) (fun iv _=>8-(intOf iv).toNat)
 case atStart=>exact⟨0,by omega,rfl,HM.out⟩
 case round=>
  clear q0 q1 q2 q3 q4 q5 q6 q7 HM;obtain⟨k,hk,rfl,hM⟩:=hrel;have k0:(0:Int)≤(k:Int):=Int.natCast_nonneg _;by_cases hk8:k<8
  ·have t3:decide ((k:Int)<8)=true:=decide_eq_true (by omega)
   have t3':decide (k<8)=true:=decide_eq_true hk8;have k8:(k:Int)<8:=by omega
   have ix:=fun V=>idx_wd hk8 V;obtain⟨f1,f2,f3,f4⟩:=fl_of hk8;have kg:=get_ok (w.heap.size+1) (of k) (fl k) t wr hM.r hs (by have:=HSZ.out;omega) (by omega);have HMG:=Lib.hid (fun W'=>hM.get (W':=W') hk8);have HX:=Lib.hid (fun(W':World) (hg:wr.grownBy W' (some (w.heap.size+1)))=>Blk.grown hM.x hg (by simp));have HXA:=Lib.hid (xs_at t hk8);have HFD:Hid (fld t k=gb t (of k) (fl k)):=Lib.hid rfl;have hlt:=gb_lt t (of k) (fl k);have hq:=wrap63 (gb t (of k) (fl k)) (Nat.lt_of_lt_of_le hlt (Nat.le_trans (Nat.pow_le_pow_right (by decide) f3) (by decide)));obtain⟨G,hG⟩: ∃G,gb t (of k) (fl k)=G:=⟨_,rfl⟩;obtain⟨FL,hFL⟩: ∃FL,fl k=FL:=⟨_,rfl⟩;rw[hG]at kg HFD hq;rw[hFL]at kg ix HMG;clear hG hFL f1 f2 f3 f4 hlt hM
   go_wp2_with fail
   (with_reducible refine(kg).mono ?_);rintro e W2 ⟨rfl,hr,hg⟩
   have hX:=HX.out W2 hg;have x1:=Blk.cell hX k (v:= .int .i64 0) HXA.out;have x2:=Blk.frozen hX k;have HM2:=Lib.hid (HMG.out W2 hr hg);rw[HFD.out]at HM2;clear kg hr hg hX HX HXA HMG ix
   go_wp2_with fail
   go_roundw
   case rel=>exact⟨k+1,by omega,by go_num,HM2.out⟩
   case measure=>simp[intOf];omega
  ·obtain rfl:k=8:=by omega
   have t3:decide (((8:Nat):Int)<8)=false:=by decide
   obtain⟨F1,F2,F4,F6,F7⟩:=HF.out;have hx:Blk wr (w.heap.size+1+1) 150 #[.int .i64 (fld t 0:Int),.int .i64 (fld t 1:Int),.int .i64 (fld t 2:Int),.int .i64 (fld t 3:Int),.int .i64 (fld t 4:Int),.int .i64 (fld t 5:Int),.int .i64 (fld t 6:Int),.int .i64 (fld t 7:Int)]:=hM.x;rw[F1,F2,F4,F6,F7]at hx;obtain⟨z0,e0⟩: ∃z,fld t 0=z:=⟨_,rfl⟩;obtain⟨z3,e3⟩: ∃z,fld t 3=z:=⟨_,rfl⟩;obtain⟨z5,e5⟩: ∃z,fld t 5=z:=⟨_,rfl⟩;rw[e0,e3,e5]at hx;have HPE:Hid (dpE t=0→dpP t=⟨((at0 t 1%32*256+at0 t 2:Nat):Int),decide (at0 t 1/64%2=1),((at0 t 3%16:Nat):Int),decide (at0 t 1/128=1),dpB t⟩):=Lib.hid (fun h=>by unfold dpP;rw[if_neg (fun h2=>h2 h)]);have HPZ:Hid (dpE t≠0→dpP t=zPk):=Lib.hid (fun h=>by unfold dpP;rw[if_pos h]);have i4: ∀V:World,(Instr.index 9 (.string t) (.int .i64 4)).run Tryz.prog V= .ok (.int .u8 (at0 t 4:Int)) V:=fun V=>idx_at t 4 (by have:=HSZ.out;omega) V;have l4:=at0_lt t 4;obtain⟨A4,a4⟩: ∃z,at0 t 4=z:=⟨_,rfl⟩;rw[a4]at i4 l4 HE0 HBO;obtain⟨A6,a6⟩: ∃z,at0 t 3/16%4=z:=⟨_,rfl⟩;rw[a6]at hx HE0 HBO;obtain⟨P,hP⟩: ∃z,at0 t 1%32*256+at0 t 2=z:=⟨_,rfl⟩;obtain⟨C,hC⟩: ∃z,at0 t 3%16=z:=⟨_,rfl⟩;obtain⟨S,hS⟩: ∃z,at0 t 1/64%2=z:=⟨_,rfl⟩;obtain⟨D,hD⟩: ∃z,at0 t 1/128=z:=⟨_,rfl⟩;rw[hP,hC,hS,hD]at HPE;rw[hP,hC,hS,hD]at hx;have b1:((S:Int)==1)=decide (S=1):=by by_cases h:S=1<;>simp[h]<;>omega
   have b2:((D:Int)==1)=decide (D=1):=by by_cases h:D=1<;>simp[h]<;>omega
   obtain⟨BS,hBS⟩: ∃z,decide (S=1)=z:=⟨_,rfl⟩;obtain⟨BD,hBD⟩: ∃z,decide (D=1)=z:=⟨_,rfl⟩;rw[hBS]at b1 HPE;rw[hBD]at b2 HPE;have A63:A6<4:=by omega
   have x0:=Blk.cell (hx) 0 (v:= .int .i64 (z0:Int)) rfl;have x1:=Blk.cell (hx) 1 (v:= .int .i64 (D:Int)) rfl;have x2:=Blk.cell (hx) 2 (v:= .int .i64 (S:Int)) rfl;have x3:=Blk.cell (hx) 3 (v:= .int .i64 (z3:Int)) rfl;have x4:=Blk.cell (hx) 4 (v:= .int .i64 (P:Int)) rfl;have x5:=Blk.cell (hx) 5 (v:= .int .i64 (z5:Int)) rfl;have x6:=Blk.cell (hx) 6 (v:= .int .i64 (A6:Int)) rfl;have x7:=Blk.cell (hx) 7 (v:= .int .i64 (C:Int)) rfl;have q4:=wrap63 A4 (by omega);have q4':(A4:Int)≤255:=by omega
   have y6:=Blk.cell (hx.alloc (.cells #[.int .i64 (P:Int),.bool BS,.int .i64 (C:Int),.bool BD,.string nob] 80)) 6 (v:= .int .i64 (A6:Int)) rfl;have HSS:=Lib.hid hM.s;have HBB0:=Lib.hid hM.be;have HS0:=Lib.hid (hM.s.alloc (.cells #[.int .i64 (P:Int),.bool BS,.int .i64 (C:Int),.bool BD,.string nob] 80));have HNW:=Lib.hid (Blk.new wr 80 #[.int .i64 (P:Int),.bool BS,.int .i64 (C:Int),.bool BD,.string nob]);have HBE:=Lib.hid (hM.be.alloc hM.be.size (.cells #[.int .i64 (P:Int),.bool BS,.int .i64 (C:Int),.bool BD,.string nob] 80));have hgw:=Blk.lt hM.s;clear hs t1 t1' t2 t2' j0 HF F1 F2 F4 F6 F7 hx e0 e3 e5 a4 a6 hP hC hS hD hBS hBD hM;by_cases h6:A6=1
   ·have t3:((A6:Int)==1)=true:=beq_iff_eq.2 (by omega)
    have HE:=Lib.hid (show dpE t=0 by rw[HE0.out,if_pos h6]);have HBB:=Lib.hid (show dpB t=t.extract 4 t.size by rw[HBO.out,if_pos h6]);clear h6
    have sl: ∀V:World,(Instr.slice 9 (.string t) (some (.int .i64 (4))) none none).run Tryz.prog V= .ok (.string (t.extract (4) t.size)) V:=fun V=>by
     have hz:=HSZ.out;rw[run_slice_string_l V 9 t Tryz.underlying9 .i64 (4) (by omega) (by omega),show((4:Int)).toNat=4 by omega]
    have q9:9≤t.size:=by have:=HSZ.out;omega
    have HNW2:=Lib.hid (Blk.new wr 80 #[.int .i64 (P:Int),.bool BS,.int .i64 (C:Int),.bool BD,.string (t.extract (4) t.size)]);have HS2:=Lib.hid (HSS.out.alloc (.cells #[.int .i64 (P:Int),.bool BS,.int .i64 (C:Int),.bool BD,.string (t.extract (4) t.size)] 80));have HBE2:=Lib.hid (HBB0.out.alloc HBB0.out.size (.cells #[.int .i64 (P:Int),.bool BS,.int .i64 (C:Int),.bool BD,.string (t.extract (4) t.size)] 80));have e0:=Blk.cell (HNW2.out) 0 (v:= .int .i64 (P:Int)) rfl;have e1:=Blk.cell (HNW2.out) 1 (v:= .bool BS) rfl;have e2:=Blk.cell (HNW2.out) 2 (v:= .int .i64 (C:Int)) rfl;have e3:=Blk.cell (HNW2.out) 3 (v:= .bool BD) rfl;have e4:=Blk.cell (HNW2.out) 4 (v:= .string (t.extract (4) t.size)) rfl;have HP2:=Lib.hid (HPE.out HE.out);rw[HBB.out]at HP2
    go_wp2_with (refine wpList_store_blk (g:=w.heap.size) (T:=80) (cs':= #[.int .i64 (P:Int),.bool BS,.int .i64 (C:Int),.bool BD,.string (t.extract (4) t.size)]) rfl 80 _ _ rfl rfl rfl (HS2.out) (by kernel_rfl) (by kernel_rfl) (by kernel_rfl) (by kernel_rfl) ?_;intro W9 hW9 hg9 hz9)
    have hVE:=HBE2.out.trans (below_of_only hg9 HBE2.out.size (fun k hk=>by injection hk with hk;omega));exact bodyPost_ret (v:= .tuple #[.agg #[.int .i64 (P:Int),.bool BS,.int .i64 (C:Int),.bool BD,.string (t.extract (4) t.size)],.int .i64 0]) (by refine res_row (fn:=Tryz.f43) (p:=2) (q:=3) rfl _ _ w.heap.size 80 _ (0,0) _ ?_ hW9 Tryz.underlying80 rfl (by kernel_rfl);rfl) rfl ⟨by rw[HP2.out,HE.out];rfl,hVE⟩
   have t3:((A6:Int)==1)=false:=beq_eq_false_iff_ne.2 (by omega);by_cases h7:A6=2
   ·have t4:((A6:Int)==2)=true:=beq_iff_eq.2 (by omega)
    by_cases h8:A4=183
    ·have t5:((A4:Int)!=183)=false:=by simp;omega
     have HE:=Lib.hid (show dpE t=0 by rw[HE0.out,if_neg h6,if_pos h7,if_neg (fun h=>h h8)]);have HBB:=Lib.hid (show dpB t=nob by rw[HBO.out,if_neg h6,if_neg (by omega)]);clear h6 h7 h8;have e0:=Blk.cell (HNW.out) 0 (v:= .int .i64 (P:Int)) rfl;have e1:=Blk.cell (HNW.out) 1 (v:= .bool BS) rfl;have e2:=Blk.cell (HNW.out) 2 (v:= .int .i64 (C:Int)) rfl;have e3:=Blk.cell (HNW.out) 3 (v:= .bool BD) rfl;have e4:=Blk.cell (HNW.out) 4 (v:= .string nob) rfl;have HP2:=Lib.hid (HPE.out HE.out);rw[HBB.out]at HP2
     go_wp2_with (refine wpList_store_blk (g:=w.heap.size) (T:=80) (cs':= #[.int .i64 (P:Int),.bool BS,.int .i64 (C:Int),.bool BD,.string nob]) rfl 80 _ _ rfl rfl rfl (HS0.out) (by kernel_rfl) (by kernel_rfl) (by kernel_rfl) (by kernel_rfl) ?_;intro W9 hW9 hg9 hz9)
     have hVE:=HBE.out.trans (below_of_only hg9 HBE.out.size (fun k hk=>by injection hk with hk;omega));exact bodyPost_ret (v:= .tuple #[.agg #[.int .i64 (P:Int),.bool BS,.int .i64 (C:Int),.bool BD,.string nob],.int .i64 0]) (by refine res_row (fn:=Tryz.f43) (p:=2) (q:=3) rfl _ _ w.heap.size 80 _ (0,0) _ ?_ hW9 Tryz.underlying80 rfl (by kernel_rfl);rfl) rfl ⟨by rw[HP2.out,HE.out];rfl,hVE⟩
    ·have t5:((A4:Int)!=183)=true:=bne_iff_ne.2 (by omega)
     have HE:=Lib.hid (show dpE t=12 by rw[HE0.out,if_neg h6,if_pos h7,if_pos h8]);clear h6 h7 h8
     go_wp2_with (refine wpList_store_blk (g:=w.heap.size) (T:=80) (cs':= #[.int .i64 0,.bool false,.int .i64 0,.bool false,.string nob]) rfl 80 _ _ rfl rfl rfl (HS0.out) (by kernel_rfl) (by kernel_rfl) (by kernel_rfl) (by kernel_rfl) ?_;intro W9 hW9 hg9 hz9)
     have hVE:=HBE.out.trans (below_of_only hg9 HBE.out.size (fun k hk=>by injection hk with hk;omega));exact bodyPost_ret (v:= .tuple #[.agg #[.int .i64 0,.bool false,.int .i64 0,.bool false,.string nob],.int .i64 12]) (by refine res_row (fn:=Tryz.f43) (p:=2) (q:=3) rfl _ _ w.heap.size 80 _ (0,0) _ ?_ hW9 Tryz.underlying80 rfl (by kernel_rfl);rfl) rfl ⟨by rw[HPZ.out (by rw[HE.out];decide),HE.out];rfl,hVE⟩
   have t4:((A6:Int)==2)=false:=beq_eq_false_iff_ne.2 (by omega);by_cases h9:A6=3
   ·have t6:((A6:Int)==3)=true:=beq_iff_eq.2 (by omega)
    by_cases h8:183≤A4
    ·have t5:decide ((183:Int)≤(A4:Int))=true:=decide_eq_true (by omega)
     have t5':decide (183≤A4)=true:=decide_eq_true h8;have HE:=Lib.hid (show dpE t=12 by rw[HE0.out,if_neg h6,if_neg h7,if_pos h9,if_pos h8]);clear h6 h7 h8 h9
     go_wp2_with (refine wpList_store_blk (g:=w.heap.size) (T:=80) (cs':= #[.int .i64 0,.bool false,.int .i64 0,.bool false,.string nob]) rfl 80 _ _ rfl rfl rfl (HS0.out) (by kernel_rfl) (by kernel_rfl) (by kernel_rfl) (by kernel_rfl) ?_;intro W9 hW9 hg9 hz9)
     have hVE:=HBE.out.trans (below_of_only hg9 HBE.out.size (fun k hk=>by injection hk with hk;omega));exact bodyPost_ret (v:= .tuple #[.agg #[.int .i64 0,.bool false,.int .i64 0,.bool false,.string nob],.int .i64 12]) (by refine res_row (fn:=Tryz.f43) (p:=2) (q:=3) rfl _ _ w.heap.size 80 _ (0,0) _ ?_ hW9 Tryz.underlying80 rfl (by kernel_rfl);rfl) rfl ⟨by rw[HPZ.out (by rw[HE.out];decide),HE.out];rfl,hVE⟩
    ·have t5:decide ((183:Int)≤(A4:Int))=false:=decide_eq_false (by omega)
     have t5':decide (183≤A4)=false:=decide_eq_false h8;have HE:=Lib.hid (show dpE t=0 by rw[HE0.out,if_neg h6,if_neg h7,if_pos h9,if_neg h8]);have HBB:=Lib.hid (show dpB t=t.extract (5+A4) t.size by rw[HBO.out,if_neg h6,if_pos h9]);clear h6 h7 h9
     have sl: ∀V:World,(Instr.slice 9 (.string t) (some (.int .i64 (5+(A4:Int)))) none none).run Tryz.prog V= .ok (.string (t.extract (5+A4) t.size)) V:=fun V=>by
      have hz:=HSZ.out;rw[run_slice_string_l V 9 t Tryz.underlying9 .i64 (5+(A4:Int)) (by omega) (by omega),show((5+(A4:Int):Int)).toNat=5+A4 by omega]
     have q9:9≤t.size:=by have:=HSZ.out;omega
     have HNW2:=Lib.hid (Blk.new wr 80 #[.int .i64 (P:Int),.bool BS,.int .i64 (C:Int),.bool BD,.string (t.extract (5+A4) t.size)]);have HS2:=Lib.hid (HSS.out.alloc (.cells #[.int .i64 (P:Int),.bool BS,.int .i64 (C:Int),.bool BD,.string (t.extract (5+A4) t.size)] 80));have HBE2:=Lib.hid (HBB0.out.alloc HBB0.out.size (.cells #[.int .i64 (P:Int),.bool BS,.int .i64 (C:Int),.bool BD,.string (t.extract (5+A4) t.size)] 80));have e0:=Blk.cell (HNW2.out) 0 (v:= .int .i64 (P:Int)) rfl;have e1:=Blk.cell (HNW2.out) 1 (v:= .bool BS) rfl;have e2:=Blk.cell (HNW2.out) 2 (v:= .int .i64 (C:Int)) rfl;have e3:=Blk.cell (HNW2.out) 3 (v:= .bool BD) rfl;have e4:=Blk.cell (HNW2.out) 4 (v:= .string (t.extract (5+A4) t.size)) rfl;have HP2:=Lib.hid (HPE.out HE.out);rw[HBB.out]at HP2
     go_wp2_with (refine wpList_store_blk (g:=w.heap.size) (T:=80) (cs':= #[.int .i64 (P:Int),.bool BS,.int .i64 (C:Int),.bool BD,.string (t.extract (5+A4) t.size)]) rfl 80 _ _ rfl rfl rfl (HS2.out) (by kernel_rfl) (by kernel_rfl) (by kernel_rfl) (by kernel_rfl) ?_;intro W9 hW9 hg9 hz9)
     have hVE:=HBE2.out.trans (below_of_only hg9 HBE2.out.size (fun k hk=>by injection hk with hk;omega));exact bodyPost_ret (v:= .tuple #[.agg #[.int .i64 (P:Int),.bool BS,.int .i64 (C:Int),.bool BD,.string (t.extract (5+A4) t.size)],.int .i64 0]) (by refine res_row (fn:=Tryz.f43) (p:=2) (q:=3) rfl _ _ w.heap.size 80 _ (0,0) _ ?_ hW9 Tryz.underlying80 rfl (by kernel_rfl);rfl) rfl ⟨by rw[HP2.out,HE.out];rfl,hVE⟩
   ·have t6:((A6:Int)==3)=false:=beq_eq_false_iff_ne.2 (by omega)
    have HE:=Lib.hid (show dpE t=12 by rw[HE0.out,if_neg h6,if_neg h7,if_neg h9]);clear h6 h7 h9
    go_wp2_with (refine wpList_store_blk (g:=w.heap.size) (T:=80) (cs':= #[.int .i64 0,.bool false,.int .i64 0,.bool false,.string nob]) rfl 80 _ _ rfl rfl rfl (HS0.out) (by kernel_rfl) (by kernel_rfl) (by kernel_rfl) (by kernel_rfl) ?_;intro W9 hW9 hg9 hz9)
    have hVE:=HBE.out.trans (below_of_only hg9 HBE.out.size (fun k hk=>by injection hk with hk;omega));exact bodyPost_ret (v:= .tuple #[.agg #[.int .i64 0,.bool false,.int .i64 0,.bool false,.string nob],.int .i64 12]) (by refine res_row (fn:=Tryz.f43) (p:=2) (q:=3) rfl _ _ w.heap.size 80 _ (0,0) _ ?_ hW9 Tryz.underlying80 rfl (by kernel_rfl);rfl) rfl ⟨by rw[HPZ.out (by rw[HE.out];decide),HE.out];rfl,hVE⟩
end Go.Proofs.YtdbpkhnmhddmmaaGreatDoor.PdW
