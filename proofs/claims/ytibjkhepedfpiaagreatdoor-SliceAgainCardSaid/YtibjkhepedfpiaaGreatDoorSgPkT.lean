import Derived.Test.YtibjkhepedfpiaaGreatDoorSgPkS
import Derived.ProofKit
import Derived.OpenShut
import Derived.Handed
import Derived.Deep.Slices
import Derived.Deep.Fields
import Derived.ChangeSame
import Derived.Lib.SmallJoins
import Derived.ChangeSlices
namespace Go.Proofs.YtibjkhepedfpiaaGreatDoor.TmA
open Go Go.RowKit Q Mem Rg Ap St BiP BiA BiW BiF BiG BiH SeA SeG SeI SeJ
structure Ti where
 delta:Int
 table:Bool
 frame:Bool
 at_:Int
def Ti.vals (t:Ti):Array Value:= #[.int .i64 t.delta,.bool t.table,.bool t.frame,.int .i64 t.at_]
def Ti.ok (t:Ti):Prop:=(0≤t.delta∧t.delta≤4095)∧(0≤t.at_∧t.at_≤262143)
instance (t:Ti):Decidable t.ok:=by unfold Ti.ok;infer_instance
def Ti.chk (t:Ti):Int:=if t.ok then 0 else 15
def zeroT:Ti:=⟨0,false,false,0⟩
def tmL (t:Ti):List UInt8:=[UInt8.ofNat (t.delta.toNat/16),UInt8.ofNat (t.delta.toNat%16*16+nb t.table*8+nb t.frame*4+t.at_.toNat/65536),UInt8.ofNat (t.at_.toNat/256%256),UInt8.ofNat (t.at_.toNat%256)]
def encT (t:Ti):ByteArray:=if t.chk=0 then str (tmL t)else nob
theorem tm_len (t:Ti):(tmL t).length=4:=rfl
theorem ti_iff {a b:Ti}:a=b↔a.delta=b.delta∧a.table=b.table∧a.frame=b.frame∧a.at_=b.at_:=⟨fun h=>by subst h;simp,fun⟨h1,h2,h3,h4⟩=>by cases a;cases b;simp_all⟩
instance:DecidableEq Ti:=fun _ _=>decidable_of_iff _ ti_iff.symm
theorem tchk_ok {t:Ti} (h:t.ok):t.chk=0:=by unfold Ti.chk;rw[if_pos h]
theorem tchk_no {t:Ti} (h: ¬t.ok):t.chk=15:=by unfold Ti.chk;rw[if_neg h]
set_option maxRecDepth 100000
theorem eqTT (a b:Ti) (w:World):(Op.equalIn 10000 46 (.agg a.vals) (.agg b.vals)).run Tryz.prog w= .ok (decide (a=b)) w:=by
 unfold Ti.vals;have hS:Tryz.prog.underlying 46=some (.struct (Tryz.prog.fieldsOf 46)):=by kernel_rfl
 have hp:Tryz.prog.stoodInHeld 46=false:=by kernel_rfl
 rw[show(10000:Nat)=9999+1 from rfl,run_equalIn_agg w 9999 46 _ _ hS hp];simp only[Program.fieldsOf,Tryz.underlying46]
 go_simp
 simp only[ti_iff];by_cases h1:a.delta=b.delta<;>by_cases h2:a.table=b.table<;>by_cases h3:a.frame=b.frame<;>by_cases h4:a.at_=b.at_<;>simp[h1,h2,h3,h4]
theorem within12 (x:Int) (w:World):Calls Tryz.prog 62 #[.int .i64 x,.int .i64 12] w fun e w'=>e= .returned (.bool (inR 4095 x))∧w=w':=by
 unfold inR;by_cases h:0≤x
 ·have t0:decide (0≤x)=true:=by simpa using h
  have HE:=Lib.hid (show(decide (0≤x)&&decide (x≤4095))=decide (x<4095+1) by rw[t0,Bool.true_and,decide_eq_decide];omega);rw[HE.out];clear h
  go_enter Tryz.func62,Tryz.ntmps62
  go_wp2_with fail
  go_ret;exact⟨rfl,rfl⟩
 ·have t0:decide (0≤x)=false:=by simpa using h
  have HE:=Lib.hid (show(decide (0≤x)&&decide (x≤4095))=false by rw[t0,Bool.false_and]);rw[HE.out];clear h
  go_enter Tryz.func62,Tryz.ntmps62
  go_wp2_with fail
  go_ret;exact⟨rfl,rfl⟩
theorem within18 (x:Int) (w:World):Calls Tryz.prog 62 #[.int .i64 x,.int .i64 18] w fun e w'=>e= .returned (.bool (inR 262143 x))∧w=w':=by
 unfold inR;by_cases h:0≤x
 ·have t0:decide (0≤x)=true:=by simpa using h
  have HE:=Lib.hid (show(decide (0≤x)&&decide (x≤262143))=decide (x<262143+1) by rw[t0,Bool.true_and,decide_eq_decide];omega);rw[HE.out];clear h
  go_enter Tryz.func62,Tryz.ntmps62
  go_wp2_with fail
  go_ret;exact⟨rfl,rfl⟩
 ·have t0:decide (0≤x)=false:=by simpa using h
  have HE:=Lib.hid (show(decide (0≤x)&&decide (x≤262143))=false by rw[t0,Bool.false_and]);rw[HE.out];clear h
  go_enter Tryz.func62,Tryz.ntmps62
  go_wp2_with fail
  go_ret;exact⟨rfl,rfl⟩
theorem tflag_any (b:Bool) (w:World):Calls Tryz.prog 150 #[.bool b] w fun e w'=>e= .returned (.int .u64 (nb b:Int))∧w=w':=by
 cases b
 all_goals
  go_enter Tryz.func150,Tryz.ntmps150
  go_wp2_with fail
  go_ret;exact⟨rfl,rfl⟩
theorem tcheck_any (t:Ti) (w:World):Calls Tryz.prog 149 #[.agg t.vals] w fun e w'=>e= .returned (.int .i64 t.chk)∧Below w.heap.size w w':=by
 have h1:= @tchk_no t;have h2:= @tchk_ok t;unfold Ti.ok at h1 h2;obtain⟨d,ta,fr,a⟩:=t;dsimp only at h1 h2;have HB:=Lib.hid (show Below w.heap.size w (w.alloc (.cells #[.int .i64 d,.bool ta,.bool fr,.int .i64 a] 46))from(Below.refl _ _).alloc (Nat.le_refl _) _);obtain⟨c,hc⟩: ∃c,Ti.chk ⟨d,ta,fr,a⟩=c:=⟨_,rfl⟩;rw[hc]at h1 h2 ⊢;clear hc;unfold Ti.vals;have k1:=fun V=>within12 d V;have k2:=fun V=>within18 a V
 cases b1:inR 4095 d with
 |false=>
  have HE:=Lib.hid (h1 (fun h=>inR_false b1 h.1));rw[b1]at k1;clear h1 h2 b1
  go_enter Tryz.func149,Tryz.ntmps149
  go_wp2_with fail
  (with_reducible refine(k1 _).mono ?_);rintro e1 W1 ⟨rfl,rfl⟩
  go_wp2_with fail
  go_ret;exact⟨by rw[HE.out];rfl,HB.out⟩
 |true=>
  rw[b1]at k1
  cases b2:inR 262143 a with
  |false=>
   have HE:=Lib.hid (h1 (fun h=>inR_false b2 h.2));rw[b2]at k2;clear h1 h2 b1 b2
   go_enter Tryz.func149,Tryz.ntmps149
   go_wp2_with fail
   (with_reducible refine(k1 _).mono ?_);rintro e1 W1 ⟨rfl,rfl⟩
   go_wp2_with fail
   (with_reducible refine(k2 _).mono ?_);rintro e1 W1 ⟨rfl,rfl⟩
   go_wp2_with fail
   go_ret;exact⟨by rw[HE.out];rfl,HB.out⟩
  |true=>
   have HE:=Lib.hid (h2 ⟨inR_true b1,inR_true b2⟩);rw[b2]at k2;clear h1 h2 b1 b2
   go_enter Tryz.func149,Tryz.ntmps149
   go_wp2_with fail
   (with_reducible refine(k1 _).mono ?_);rintro e1 W1 ⟨rfl,rfl⟩
   go_wp2_with fail
   (with_reducible refine(k2 _).mono ?_);rintro e1 W1 ⟨rfl,rfl⟩
   go_wp2_with fail
   go_ret;exact⟨by rw[HE.out];rfl,HB.out⟩
theorem tm_bits (d a:Nat) (x y:Bool) (ha:a≤262143):pk (((bitsOf d 12++bitsOf (nb x) 1)++bitsOf (nb y) 1)++bitsOf a 18)=[UInt8.ofNat (d/16),UInt8.ofNat (d%16*16+nb x*8+nb y*4+a/65536),UInt8.ofNat (a/256%256),UInt8.ofNat (a%256)]:=by
 have hx:=nb_le x;have hy:=nb_le y
 generalize nb x=p at*
 generalize nb y=q at*
 have e1:bitsOf d 12=bitsOf (d/16) 8++bitsOf (d%16) 4:=by
  have h:=bitsOf_join (d/16) (d%16) 8 4 (by omega);rw[show d/16*2^4+d%16=d by omega]at h;exact h.symm
 have e2:bitsOf a 18=bitsOf (a/65536) 2++(bitsOf (a/256%256) 8++bitsOf (a%256) 8):=by
  have h:=bitsOf_join (a/65536) (a%65536) 2 16 (by omega);rw[show a/65536*2^16+a%65536=a by omega]at h;rw[←show bitsOf a 18=bitsOf a (2+16)from rfl]at h;rw[←h,bitsOf_two,show a%65536/256=a/256%256 by omega,show a%65536%256=a%256 by omega]
 have e3:bitsOf (d%16) 4++(bitsOf p 1++(bitsOf q 1++bitsOf (a/65536) 2))=bitsOf (d%16*16+p*8+q*4+a/65536) 8:=by
  rw[bitsOf_join q (a/65536) 1 2 (by omega),bitsOf_join p _ 1 (1+2) (by omega),bitsOf_join (d%16) _ 4 (1+(1+2)) (by omega)]
  congr 1
  omega
 rw[e1,e2]
 have e4:((bitsOf (d/16) 8++bitsOf (d%16) 4++bitsOf p 1)++bitsOf q 1)++(bitsOf (a/65536) 2++(bitsOf (a/256%256) 8++bitsOf (a%256) 8))=
  bitsOf (d/16) 8++(bitsOf (d%16*16+p*8+q*4+a/65536) 8++(bitsOf (a/256%256) 8++(bitsOf (a%256) 8++[]))):=by
  rw[←e3];simp[List.append_assoc]
 rw[e4,pk_cons,pk_cons,pk_cons,pk_cons,pk_nil]
theorem enc_zero (w:World):Calls Tryz.prog 122 #[.agg zeroT.vals] w fun e w'=>e= .returned (.tuple #[.string (encT zeroT),.int .i64 0])∧Below w.heap.size w w':=by
 have he:=fun V=>eqTT zeroT zeroT V;rw[decide_eq_true rfl]at he;have hX:=Lib.hid (show encT zeroT=str [0,0,0,0]from rfl);rw[hX.out];unfold Ti.vals zeroT at he ⊢;dsimp only at he ⊢;have HB:=Lib.hid (bk1 w 46 #[.int .i64 0,.bool false,.bool false,.int .i64 0]);have hm:=mk_bytes 4 (by omega) (w.alloc (.cells #[.int .i64 0,.bool false,.bool false,.int .i64 0] 46));rw[show((4:Nat):Int)=4 from rfl]at hm;have HB2:=Lib.hid (HB.out.newAt (w.heap.size+1) 5 (rowB [] 4) (by simp));have hc:=conv_row (l:=[0,0,0,0]) (show Blk _ _ 5 (rowB [0,0,0,0] 0)from HB2.out.nth 0 rfl) (n:=4) rfl 4
 go_enter Tryz.func122,Tryz.ntmps122
 go_wp2_with fail
 go_ret2
 exact⟨rfl,HB2.out.be⟩
theorem enc_no (t:Ti) (w:World) (h: ¬t.ok):Calls Tryz.prog 122 #[.agg t.vals] w fun e w'=>e= .returned (.tuple #[.string nob,.int .i64 15])∧Below w.heap.size w w':=by
 have hz:t≠zeroT:=fun e=>h (by rw[e];unfold Ti.ok zeroT;simp);have he:=fun V=>eqTT t zeroT V;rw[decide_eq_false hz]at he;have k1:=tcheck_any t;rw[tchk_no h]at k1;obtain⟨d,ta,fr,a⟩:=t;unfold Ti.vals zeroT at*;dsimp only at*;have HB:=Lib.hid (bk1 w 46 #[.int .i64 d,.bool ta,.bool fr,.int .i64 a]);clear h hz
 go_enter Tryz.func122,Tryz.ntmps122
 go_wp2_with fail
 (with_reducible refine(k1 _).mono ?_);rintro e1 W1 ⟨rfl,hb1⟩
 have hE:=(HB.out.below hb1).be
 go_wp2_with fail
 go_ret2
 exact⟨rfl,hE⟩
set_option maxHeartbeats 1600000 in
theorem enc_yes (t:Ti) (w:World) (h:t.ok) (hz:t≠zeroT):Calls Tryz.prog 122 #[.agg t.vals] w fun e w'=>e= .returned (.tuple #[.string (str (tmL t)),.int .i64 0])∧Below w.heap.size w w':=by
 have he:=fun V=>eqTT t zeroT V;rw[decide_eq_false hz]at he;have k1:=tcheck_any t;rw[tchk_ok h]at k1;unfold Ti.ok at h;have hL:tmL t=[UInt8.ofNat (t.delta.toNat/16),UInt8.ofNat (t.delta.toNat%16*16+nb t.table*8+nb t.frame*4+t.at_.toNat/65536),UInt8.ofNat (t.at_.toNat/256%256),UInt8.ofNat (t.at_.toNat%256)]:=rfl;obtain⟨Z,hZ⟩: ∃Z,tmL t=Z:=⟨_,rfl⟩;rw[hZ]at hL ⊢;clear hZ hz;obtain⟨d,ta,fr,a⟩:=t;unfold Ti.vals zeroT at*;dsimp only at*;obtain⟨d,rfl⟩: ∃x:Nat,d=x:=⟨d.toNat,by omega⟩;obtain⟨a,rfl⟩: ∃x:Nat,a=x:=⟨a.toNat,by omega⟩;simp only[Int.toNat_natCast]at hL;have hd:d≤4095:=by omega
 have ha:a≤262143:=by omega
 have HT:=Lib.hid (show pk (((bitsOf d 12++bitsOf (nb ta) 1)++bitsOf (nb fr) 1)++bitsOf a 18)=Z by rw[tm_bits d a ta fr ha,hL]);have q1:IntKind.u64.wrap (d:Int)=(d:Int):=by simp[IntKind.wrap,IntKind.bits,IntKind.signed];omega
 have q2:IntKind.u64.wrap (a:Int)=(a:Int):=by simp[IntKind.wrap,IntKind.bits,IntKind.signed];omega
 have kp:=fun V=>tflag_any ta V;have kq:=fun V=>tflag_any fr V;have l1:=nb_le ta;have l2:=nb_le fr;obtain⟨P,hP⟩: ∃P,nb ta=P:=⟨_,rfl⟩;obtain⟨R,hR⟩: ∃R,nb fr=R:=⟨_,rfl⟩;rw[hP]at kp HT l1;rw[hR]at kq HT l2;have HB:=Lib.hid (bk1 w 46 #[.int .i64 (d:Int),.bool ta,.bool fr,.int .i64 (a:Int)]);clear h hL hP hR
 go_enter Tryz.func122,Tryz.ntmps122
 go_wp2_with fail
 (with_reducible refine(k1 _).mono ?_);rintro e1 W1 ⟨rfl,hb1⟩
 have HB1:=Lib.hid (HB.out.below hb1);have HB2:=Lib.hid (HB1.out.new 213 #[.slice none 0 0,.int .i64 0]);have hwg:=HB1.out.lt 0 rfl;obtain⟨g,hg⟩: ∃g,W1.heap.size=g:=⟨_,rfl⟩;rw[hg]at HB2 hwg;obtain⟨W0,hW0⟩: ∃W0,W1.alloc (.cells #[.slice none 0 0,.int .i64 0] 213)=W0:=⟨_,rfl⟩;rw[hW0]at HB2;have hg1:g+1≤W0.heap.size:=HB2.out.lt 0 rfl;have hwg:w.heap.size<g:=hwg;have HO0:=Lib.hid (show OutV W0 g (g+1) (.slice none 0 0) []from⟨HB2.out.nth 0 rfl,by rw[show pk []=[]from rfl];exact World.ownsRow_nil _ _ _ _,by omega,hg1⟩);have hbx:=HB2.out.nth 1 rfl;have c0:=Blk.cell (hbx) 0 (v:= .int .i64 (d:Int)) rfl;have c1:=Blk.cell (hbx) 1 (v:= .bool ta) rfl;have c2:=Blk.cell (hbx) 2 (v:= .bool fr) rfl;have c3:=Blk.cell (hbx) 3 (v:= .int .i64 (a:Int)) rfl;have p1:=put_any g (g+1) _ [] d 12 W0 HO0.out (by simp) (by omega) (by omega);rw[show((12:Nat):Int)=12 from rfl]at p1;clear k1 hb1 HB
 go_wp2_with fail
 (with_reducible refine(p1).mono ?_);rintro e1 W2 ⟨rfl,v2,hO2,hG2⟩
 have HG2:=Lib.hid hG2;have HO2:=Lib.hid hO2;have hx:Blk W2 w.heap.size 46 _:=(hG2.block _ (by omega) (by omega) (by simp[Value.ownBlock])).trans hbx;clear c0 c1 c2 c3 p1 hO2 hG2;have c1:=Blk.cell hx 1 (v:= .bool ta) rfl;have p2:=put_any g (g+1) v2 _ P 1 W2 HO2.out (by simp[bitsOf_len]) (by omega) (by omega);rw[show((1:Nat):Int)=1 from rfl]at p2
 go_wp2_with fail
 (with_reducible refine(kp _).mono ?_);rintro e1 W3 ⟨rfl,rfl⟩
 go_wp2_with fail
 (with_reducible refine(p2).mono ?_);rintro e1 W3 ⟨rfl,v3,hO3,hG3⟩
 have HG3:=Lib.hid (HG2.out.trans hG3);have HO3:=Lib.hid hO3;have hx:Blk W3 w.heap.size 46 _:=(HG3.out.block _ (by omega) (by omega) (by simp[Value.ownBlock])).trans hbx;clear c1 p2 hO3 hG3 kp;have c1:=Blk.cell hx 2 (v:= .bool fr) rfl;have p3:=put_any g (g+1) v3 _ R 1 W3 HO3.out (by simp[bitsOf_len]) (by omega) (by omega);rw[show((1:Nat):Int)=1 from rfl]at p3
 go_wp2_with fail
 (with_reducible refine(kq _).mono ?_);rintro e1 W4 ⟨rfl,rfl⟩
 go_wp2_with fail
 (with_reducible refine(p3).mono ?_);rintro e1 W4 ⟨rfl,v4,hO4,hG4⟩
 have HG4:=Lib.hid (HG3.out.trans hG4);have HO4:=Lib.hid hO4;have hx:Blk W4 w.heap.size 46 _:=(HG4.out.block _ (by omega) (by omega) (by simp[Value.ownBlock])).trans hbx;clear c1 p3 hO4 hG4 kq;have c1:=Blk.cell hx 3 (v:= .int .i64 (a:Int)) rfl;have p4:=put_any g (g+1) v4 _ a 18 W4 HO4.out (by simp[bitsOf_len]) (by omega) (by omega);rw[show((18:Nat):Int)=18 from rfl]at p4
 go_wp2_with fail
 (with_reducible refine(p4).mono ?_);rintro e1 W5 ⟨rfl,v5,hO5,hG5⟩
 have HG5:=Lib.hid (HG4.out.trans hG5);have ks:=ostring_any g (g+1) v5 _ W5 hO5;rw[List.nil_append,HT.out]at ks;have hE:Below w.heap.size w W5:=HB2.out.be.trans (HG5.out.below (by omega) (fun r e=>by simp[Value.ownBlock]at e) HB2.out.size);clear c1 p4 hO5 hG5 hx
 go_wp2_with fail
 (with_reducible refine(ks).mono ?_);rintro e1 W6 ⟨rfl,rfl⟩
 go_wp2_with fail
 go_ret2
 exact⟨rfl,hE⟩
theorem enct_any (t:Ti) (w:World):Calls Tryz.prog 122 #[.agg t.vals] w fun e w'=>e= .returned (.tuple #[.string (encT t),.int .i64 t.chk])∧Below w.heap.size w w':=by
 unfold encT;by_cases h:t.ok
 ·rw[if_pos (tchk_ok h),tchk_ok h]
  by_cases hz:t=zeroT
  ·subst hz
   have:=enc_zero w;unfold encT at this;rw[if_pos (tchk_ok h)]at this;exact this
  ·exact enc_yes t w h hz
 ·rw[if_neg (by rw[tchk_no h];decide),tchk_no h]
  exact enc_no t w h
end Go.Proofs.YtibjkhepedfpiaaGreatDoor.TmA
namespace Go.Proofs.YtibjkhepedfpiaaGreatDoor.TmB
open Go Go.RowKit Q Mem Rg Ap St BiP BiA BiG BiH SeA SeG SeI SeJ SeP TmA
def tmD (s:ByteArray):Ti:=⟨(at0 s 0*16+at0 s 1/16:Nat),decide (at0 s 1/8%2=1),decide (at0 s 1/4%2=1),(at0 s 1%4*65536+at0 s 2*256+at0 s 3:Nat)⟩
theorem tmD_ok (s:ByteArray):(tmD s).ok:=by
 have l0:=at0_lt s 0;have l1:=at0_lt s 1;have l2:=at0_lt s 2;have l3:=at0_lt s 3;unfold Ti.ok tmD;dsimp only;omega
theorem four_bl (s:ByteArray) (h:s.size=4):bl s=[UInt8.ofNat (at0 s 0),UInt8.ofNat (at0 s 1),UInt8.ofNat (at0 s 2),UInt8.ofNat (at0 s 3)]:=by
 apply List.ext_getElem?;intro i;by_cases hi:i<4
 ·rw[bl_at0 s i (by omega)]
  match i,hi with
  |0,_|1,_|2,_|3,_=>rfl
 ·rw[List.getElem?_eq_none (by rw[bl_len];omega),List.getElem?_eq_none (by simp;omega)]
theorem tmL_tmD (s:ByteArray) (h:s.size=4):tmL (tmD s)=bl s:=by
 have l0:=at0_lt s 0;have l1:=at0_lt s 1;have l2:=at0_lt s 2;have l3:=at0_lt s 3;rw[four_bl s h];unfold tmL tmD;dsimp only;rw[nb_dec,nb_dec,Int.toNat_natCast,Int.toNat_natCast];have e1:(at0 s 0*16+at0 s 1/16)/16=at0 s 0:=by omega
 have e2:(at0 s 0*16+at0 s 1/16)%16*16+at0 s 1/8%2*8+at0 s 1/4%2*4+(at0 s 1%4*65536+at0 s 2*256+at0 s 3)/65536=at0 s 1:=by omega
 have e3:(at0 s 1%4*65536+at0 s 2*256+at0 s 3)/256%256=at0 s 2:=by omega
 have e4:(at0 s 1%4*65536+at0 s 2*256+at0 s 3)%256=at0 s 3:=by omega
 rw[e1,e2,e3,e4]
theorem tmD_tmL (t:Ti) (h:t.ok):tmD (str (tmL t))=t:=by
 have u0:=at0_str (tmL t) 0 _ rfl;have u1:=at0_str (tmL t) 1 _ rfl;have u2:=at0_str (tmL t) 2 _ rfl;have u3:=at0_str (tmL t) 3 _ rfl;simp only[UInt8.toNat_ofNat']at u0 u1 u2 u3;have p:=nb_le t.table;have q:=nb_le t.frame;have db: ∀b:Bool,decide (nb b=1)=b:=fun b=>by cases b<;>rfl
 unfold Ti.ok at h;unfold tmD;rw[u0,u1,u2,u3,ti_iff];dsimp only;rw[show(t.delta.toNat%16*16+nb t.table*8+nb t.frame*4+t.at_.toNat/65536)%2^8/8%2=nb t.table by omega,show(t.delta.toNat%16*16+nb t.table*8+nb t.frame*4+t.at_.toNat/65536)%2^8/4%2=nb t.frame by omega,db,db];refine⟨by omega,rfl,rfl,by omega⟩
theorem tfields (u:ByteArray):gb u 0 12=at0 u 0*16+at0 u 1/16∧gb u 12 1=at0 u 1/8%2∧gb u 13 1=at0 u 1/4%2∧gb u 14 18=at0 u 1%4*65536+at0 u 2*256+at0 u 3:=by
 have l1:=at0_lt u 1;have g0:=gb_byte u 0;have g2:=gb_byte u 2;have g3:=gb_byte u 3;have a1:=gb_in u 1 0 4 (by omega);have a2:=gb_in u 1 4 1 (by omega);have a3:=gb_in u 1 5 1 (by omega);have a4:=gb_in u 1 6 2 (by omega);have h1:=gb_split u 0 8 4;have h2:=gb_split u 14 2 16;have h3:=gb_split u 16 8 8;simp only[Nat.reduceMul,Nat.reduceAdd,Nat.reducePow,Nat.reduceSub]at g0 g2 g3 a1 a2 a3 a4 h1 h2 h3;refine⟨?_,?_,?_,?_⟩
 ·rw[h1,g0,a1];omega
 ·rw[a2]
 ·rw[a3]
 ·rw[h2,a4,h3,g2,g3];omega
set_option maxRecDepth 100000
set_option maxHeartbeats 3200000 in
theorem tdec_any (u:ByteArray) (w:World) (hs:u.size=4):Calls Tryz.prog 170 #[.string u] w fun e w'=>e= .returned (.tuple #[.agg (tmD u).vals,.int .i64 0])∧Below w.heap.size w w':=by
 have HB:=Lib.hid (bk1 w 46 #[.int .i64 0,.bool false,.bool false,.int .i64 0]);obtain⟨f0,f1,f2,f3⟩:=tfields u;have l0:=at0_lt u 0;have l1:=at0_lt u 1;have l2:=at0_lt u 2;have l3:=at0_lt u 3;have hR:tmD u=⟨(at0 u 0*16+at0 u 1/16:Nat),decide (at0 u 1/8%2=1),decide (at0 u 1/4%2=1),(at0 u 1%4*65536+at0 u 2*256+at0 u 3:Nat)⟩:=rfl;have m0:at0 u 0*16+at0 u 1/16≤4095:=by omega
 have m3:at0 u 1%4*65536+at0 u 2*256+at0 u 3≤262143:=by omega
 obtain⟨a,ea⟩: ∃x,at0 u 0*16+at0 u 1/16=x:=⟨_,rfl⟩;obtain⟨p,ep⟩: ∃x,at0 u 1/8%2=x:=⟨_,rfl⟩;obtain⟨q,eq⟩: ∃x,at0 u 1/4%2=x:=⟨_,rfl⟩;obtain⟨b,eb⟩: ∃x,at0 u 1%4*65536+at0 u 2*256+at0 u 3=x:=⟨_,rfl⟩;rw[ea]at f0 hR m0;rw[ep]at f1 hR;rw[eq]at f2 hR;rw[eb]at f3 hR m3;have F0:=Lib.hid f0;have F1:=Lib.hid f1;have F2:=Lib.hid f2;have F3:=Lib.hid f3;have q0:=wrap63 a (by omega);have q3:=wrap63 b (by omega);have hb1:((p:Int)==1)=decide (p=1):=by by_cases hx:p=1<;>simp[hx]<;>omega
 have hb2:((q:Int)==1)=decide (q=1):=by by_cases hx:q=1<;>simp[hx]<;>omega
 obtain⟨b1,eb1⟩: ∃x,decide (p=1)=x:=⟨_,rfl⟩;obtain⟨b2,eb2⟩: ∃x,decide (q=1)=x:=⟨_,rfl⟩;rw[eb1]at hb1 hR;rw[eb2]at hb2 hR;have HR:=Lib.hid hR;have hus:u.size≤1099511627776:=by omega
 have kg:=fun(W:World) (g a n:Nat) (L:List (Nat×TypeId×Array Value)) (h:Bk w W ((g,203,inC a u)::L)) hg hL h1 h2=>get_bk (n:=n) h hg hL hus h1 h2;have HK:=Lib.hid kg;have k0:=fun V=>read_any u V;have HU:=Lib.hid hs;have t2:decide (u.size<4)=false:=by simp;omega
 have t3:decide (4<u.size)=false:=by simp;omega
 clear kg hR ea ep eq eb f0 f1 f2 f3 l0 l1 l2 l3 m0 m3 eb1 eb2 hus
 go_enter Tryz.func170,Tryz.ntmps170
 go_wp2_with fail
 (with_reducible refine(k0 _).mono ?_);rintro e1 W3 ⟨rfl,rfl⟩
 have HB3:=Lib.hid (HB.out.new 203 (inC 0 u));have hgw:w.heap.size<(w.alloc (.cells #[.int .i64 0,.bool false,.bool false,.int .i64 0] 46)).heap.size:=HB.out.lt 0 rfl;obtain⟨g,hg⟩: ∃g,(w.alloc (.cells #[.int .i64 0,.bool false,.bool false,.int .i64 0] 46)).heap.size=g:=⟨_,rfl⟩;rw[hg]at HB3 hgw ⊢;obtain⟨W3,hW3⟩: ∃W3,(w.alloc (.cells #[.int .i64 0,.bool false,.bool false,.int .i64 0] 46)).alloc (.cells (inC 0 u) 203)=W3:=⟨_,rfl⟩;rw[hW3]at HB3 ⊢;have kg:=HK.out W3 g 0 12 _ HB3.out (by omega) (by simp;omega) (by have:=HU.out;omega) (by decide);rw[show((12:Nat):Int)=12 from rfl,F0.out]at kg;clear k0 hg hW3 HB t2 t3;clear hs
 go_wp2_with fail
 (with_reducible refine(kg).mono ?_);rintro e1 W4 ⟨rfl,hb⟩
 have HB4:=Lib.hid hb;clear hb HB3 kg
 go_wp2_with fail
 have HS0:=Lib.hid (swap (HB4.out.new 46 #[.int .i64 (a:Int),.bool false,.bool false,.int .i64 0]));have hSg:g<W4.heap.size:=HB4.out.lt 0 rfl;obtain⟨S,hS⟩: ∃S,W4.heap.size=S:=⟨_,rfl⟩;rw[hS]at HS0 hSg ⊢;obtain⟨W5,hW5⟩: ∃W5,W4.alloc (.cells #[.int .i64 (a:Int),.bool false,.bool false,.int .i64 0] 46)=W5:=⟨_,rfl⟩;rw[hW5]at HS0 ⊢
 have hL: ∀(c c':Array Value),∀x∈[(S,46,c),(w.heap.size,46,c')],x.1≠g:=fun c c' x hx=>by
  rcases List.mem_cons.1 hx with rfl|hx
  ·show S≠g;omega
  ·rcases List.mem_cons.1 hx with rfl|hx
   ·show w.heap.size≠g;omega
   ·cases hx
 have HL:=Lib.hid hL;clear hS hW5 HB4 hL;have kg:=HK.out _ g 12 1 _ HS0.out (by omega) (HL.out _ _) (by have:=HU.out;omega) (by decide);rw[show((1:Nat):Int)=1 from rfl,F1.out]at kg
 (with_reducible refine(kg).mono ?_);rintro e1 W7 ⟨rfl,hb⟩
 have HS7:=Lib.hid hb;clear hb kg HS0;have z1:=Blk.cell (HS7.out.nth 1 rfl) 1 (v:= .bool false) rfl;have zf1:=Blk.frozen (HS7.out.nth 1 rfl) 1;have HT7:=Lib.hid (show Bk w (W7.setCell ⟨S,1,none⟩ (.bool b1)) [(g,203,inC 13 u),(S,46,#[.int .i64 (a:Int),.bool b1,.bool false,.int .i64 0]),(w.heap.size,46,#[.int .i64 0,.bool false,.bool false,.int .i64 0])]from bk_put HS7.out (by omega) (by omega) (by omega) 1 (.bool b1));clear HS7;have kg:=HK.out _ g 13 1 _ HT7.out (by omega) (HL.out _ _) (by have:=HU.out;omega) (by decide);rw[show((1:Nat):Int)=1 from rfl,F2.out]at kg
 go_wp2_with fail
 (with_reducible refine(kg).mono ?_);rintro e1 W8 ⟨rfl,hb⟩
 have HS8:=Lib.hid hb;clear hb kg HT7;have z2:=Blk.cell (HS8.out.nth 1 rfl) 2 (v:= .bool false) rfl;have zf2:=Blk.frozen (HS8.out.nth 1 rfl) 2;have HT8:=Lib.hid (show Bk w (W8.setCell ⟨S,2,none⟩ (.bool b2)) [(g,203,inC 14 u),(S,46,#[.int .i64 (a:Int),.bool b1,.bool b2,.int .i64 0]),(w.heap.size,46,#[.int .i64 0,.bool false,.bool false,.int .i64 0])]from bk_put HS8.out (by omega) (by omega) (by omega) 2 (.bool b2));clear HS8;have kg:=HK.out _ g 14 18 _ HT8.out (by omega) (HL.out _ _) (by have:=HU.out;omega) (by decide);rw[show((18:Nat):Int)=18 from rfl,F3.out]at kg
 go_wp2_with fail
 (with_reducible refine(kg).mono ?_);rintro e1 W9 ⟨rfl,hb⟩
 have HS9:=Lib.hid hb;clear hb kg HT8;have z3:=Blk.cell (HS9.out.nth 1 rfl) 3 (v:= .int .i64 0) rfl;have zf3:=Blk.frozen (HS9.out.nth 1 rfl) 3;have HT9:=Lib.hid (show Bk w (W9.setCell ⟨S,3,none⟩ (.int .i64 (b:Int))) [(g,203,inC 32 u),(S,46,#[.int .i64 (a:Int),.bool b1,.bool b2,.int .i64 (b:Int)]),(w.heap.size,46,#[.int .i64 0,.bool false,.bool false,.int .i64 0])]from bk_put HS9.out (by omega) (by omega) (by omega) 3 (.int .i64 (b:Int)));clear HS9;have d0:=Blk.cell (HT9.out.nth 1 rfl) 0 (v:= .int .i64 (a:Int)) rfl;have d1:=Blk.cell (HT9.out.nth 1 rfl) 1 (v:= .bool b1) rfl;have d2:=Blk.cell (HT9.out.nth 1 rfl) 2 (v:= .bool b2) rfl;have d3:=Blk.cell (HT9.out.nth 1 rfl) 3 (v:= .int .i64 (b:Int)) rfl
 go_wp2_with (refine wpList_store_blk (g:=w.heap.size) (T:=46) (cs':= #[.int .i64 (a:Int),.bool b1,.bool b2,.int .i64 (b:Int)]) rfl 46 _ _ rfl rfl rfl (HT9.out.nth 2 rfl) (by kernel_rfl) (by kernel_rfl) (by kernel_rfl) (by kernel_rfl) ?_;intro W9 hW9 hg9 hz9)
 have hVE:=HT9.out.be.trans (below_of_only hg9 HT9.out.size (fun k hk=>by injection hk with hk;omega));exact bodyPost_ret (v:= .tuple #[.agg #[.int .i64 (a:Int),.bool b1,.bool b2,.int .i64 (b:Int)],.int .i64 0]) (by refine res_row (fn:=Tryz.f170) (p:=2) (q:=3) rfl _ _ w.heap.size 46 _ (0,0) _ ?_ hW9 Tryz.underlying46 rfl (by kernel_rfl);rfl) rfl ⟨by rw[HR.out];simp[Ti.vals],hVE⟩
end Go.Proofs.YtibjkhepedfpiaaGreatDoor.TmB
namespace Go.Proofs.YtibjkhepedfpiaaGreatDoor.Law
open Go.ChangeShapes Go.WideShapes Go.ChangeAt Go.RowKit
theorem own:ownKnob Tryz.prog.godebug=none:=by kernel_rfl
theorem laid:laidOutB Tryz.prog=true:=by kernel_rfl
section
variable {H:Type} {enc:TypeId×Value→H} {P:Program}
theorem trodAll_length {w:World} {base:Nat} {sp:Nat→Bool} {held:Bool}: ∀{ts:List TypeId} {vs:List Value} {ds:List (DataW H)} {ps:List MemPlace},
 DataW.TrodAll enc P w base sp held ts vs ds ps→ds.length=ts.length∧vs.length=ts.length
 |[],[],[],_,_=>⟨rfl,rfl⟩
 |_::_,_::_,_::_,_,⟨_,_,_,h2,_⟩=>by
  have:=trodAll_length h2;simp only[List.length_cons];omega
 |[],[],_::_,_,h=>h.elim
 |[],_::_,_,_,h=>h.elim
 |_::_,[],_,_,h=>h.elim
 |_::_,_::_,[],_,h=>h.elim
theorem trodAll_stay (hl:laidOutB P=true) {W W':World} (hb:Below W.heap.size W W'): ∀{ts:List TypeId} {vs:List Value} {ds:List (DataW H)} {ps:List MemPlace},
 (∀t∈ts,P.readableRec t=true∧t<P.types.size)→DataW.TrodAll enc P W 0 (fun _=>true) true ts vs ds ps→(∀p∈ps,p.block<W.heap.size)→
  DataW.TrodAll enc P W' 0 (fun b=>decide (b<W.heap.size)) true ts vs ds ps
 |[],[],[],_,_,h,_=>h
 |t::_,_::_,_::_,_,hr,⟨p,q,h1,h2,e⟩,hlt=>
  ⟨p,q,Below.trod hl (hr t (List.mem_cons.2 (Or.inl rfl))).1 (hr t (List.mem_cons.2 (Or.inl rfl))).2 h1 hb (fun x hx=>hlt x (by rw[e];exact List.mem_append_left _ hx)),
   trodAll_stay hl hb (fun t ht=>hr t (List.mem_cons.2 (Or.inr ht))) h2 (fun x hx=>hlt x (by rw[e];exact List.mem_append_right _ hx)),e⟩
 |[],[],_::_,_,_,h,_=>h.elim
 |[],_::_,_,_,_,h,_=>h.elim
 |_::_,[],_,_,_,h,_=>h.elim
 |_::_,_::_,[],_,_,h,_=>h.elim
theorem post_true (hl:laidOutB P=true) {f:Func} {s:ChangeSpec} {W W':World} {args:Array Value} {ds gs:List (DataW H)} {before:List MemPlace}
 (hW:DataW.Whole enc P f.params.toList s.vars false W args.toList ds gs before) (hv:s.vars=[]) {B:TypeId} (hres:f.resultTypes= #[B]) (hB:P.underlying B=some .bool)
 (hpar: ∀t∈f.params.toList,P.readableRec t=true∧t<P.types.size)
 (hs: ∀xs:List (DataW H),xs.length=f.params.toList.length→s.fn H xs={results:=[.lit (.bool true)],args:=xs}) (hb:Below W.heap.size W W'):
 s.post enc P f false true false false W args (.bool true) W':=by
 have hlt: ∀p∈before,p.block<W.heap.size:=fun p hp=>hW.lt p hp;have hW0:=hW;obtain⟨p,q,hA,hV,rfl,_,_⟩:=hW0;rw[hv]at hV;obtain⟨rfl,rfl⟩:=trodVars_none hV;have hlen:=(trodAll_length hA).1;have e1:s.fn H (ds++[])={results:=[.lit (.bool true)],args:=ds}:=by rw[List.append_nil];exact hs ds hlen
 refine⟨ds,[],p++[],[],p,[],hW,?_,?_,?_,hb.frame _,fun h=>by cases h⟩
 ·rw[e1,hres]
  exact trodAll_mk1 (shut_bool hB _)
 ·rw[e1]
  exact trodAll_stay hl hb hpar hA (fun x hx=>hlt x (List.mem_append_left _ hx))
 ·rw[e1,hv]
  rfl
end
set_option maxRecDepth 100000 in
theorem lifted {f:FuncId} {fn:Func} {s:ChangeSpec} {conds:List PathCond} (hc:conds=[]) (noInit:Tryz.checked.prog.inits.idxOf? f=none) (hfn:Tryz.checked.prog.funcs[f]? =some fn) (hv:s.vars=[]) {B:TypeId} (hres:fn.resultTypes= #[B])
 (hB:Tryz.prog.underlying B=some .bool) (hpar: ∀t∈fn.params.toList,Tryz.prog.readableRec t=true∧t<Tryz.prog.types.size)
 (hs: ∀(H:Type) (xs:List (DataW H)),xs.length=fn.params.toList.length→s.fn H xs={results:=[.lit (.bool true)],args:=xs})
 (walk: ∀(H:Type) (enc:TypeId×Value→H) (W:World) (base:Nat) (args:Array Value) (ds:List (DataW H)) (p:List MemPlace),
  (∀(j:Nat) t v,fn.params[j]? =some t→args[j]? =some v→Value.okWide Tryz.prog W .any base t v)→
  DataW.TrodAll enc Tryz.prog W 0 (fun _=>true) true fn.params.toList args.toList ds p→(∀x∈p,x.block<W.heap.size)→
  Calls Tryz.prog f args W fun e W'=>e= .returned (.bool true)∧Below W.heap.size W W')
 (os:Os) (started:os.Started) (H:Type) (enc:TypeId×Value→H)
 (witness: ∃(w:World) (tape:Tape) (i:Input),w.os=os∧(w.forCall tape i).Shaped Tryz.checked.prog∧i.vars=[]∧Input.okWide Tryz.checked.prog (w.forCall tape i) .any w.heap.size f i∧
  s.pre6 enc Tryz.checked.prog fn conds false (w.forCall tape i).memory i.args∧Assume.holds {} Tryz.checked.prog (lone (Frame.enter Tryz.checked.prog f i.args .normal) [] (w.forCall tape i))):
 ReturnsInHanded {} Tryz.checked os f .any (s.pre6 enc Tryz.prog fn conds false) (s.post enc Tryz.prog fn false true false false):=by
 subst hc;refine returnsInHanded_of_change (C:=Tryz.checked) own started noInit hfn witness ?_;intro W base args ds gs before hval hW _ _;have hlt: ∀x∈before,x.block<W.heap.size:=fun x hx=>hW.lt x hx;have hW0:=hW;obtain⟨p,q,hA,hV,rfl,_,_⟩:=hW0;refine(walk H enc W base args ds p hval hA (fun x hx=>hlt x (List.mem_append_left _ hx))).mono fun e W' ⟨he,hb⟩=>?_;subst he;exact⟨_,rfl,post_true laid hW hv hres hB hpar (hs H) hb⟩
end Go.Proofs.YtibjkhepedfpiaaGreatDoor.Law
namespace Go.Proofs.YtibjkhepedfpiaaGreatDoor.Opn
open Go.ChangeShapes Go.WideShapes Go.RowKit Go.Deep
section
variable {H:Type} {enc:TypeId×Value→H} {P:Program} {w:World} {base:Nat} {spare:Nat→Bool} {held:Bool}
theorem add_at (b o n:Nat):(⟨b,o,none⟩:Addr).add n=⟨b,o+n,none⟩:=by
 unfold Addr.add
 split<;>simp_all
end
end Go.Proofs.YtibjkhepedfpiaaGreatDoor.Opn
namespace Go.Proofs.YtibjkhepedfpiaaGreatDoor.TiOpn
open Go.RowKit Q Mem TmA Opn
open Go.ChangeShapes Go.WideShapes Go.ChangeAt Go.Joins
set_option maxRecDepth 100000
section
variable {H0:Type} {enc:TypeId×Value→H0} {w:World} {base:Nat} {spare:Nat→Bool} {held:Bool}
end
end Go.Proofs.YtibjkhepedfpiaaGreatDoor.TiOpn
