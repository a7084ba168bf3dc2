import Derived.Test.YtibjkhepedfpiaaGreatDoorSgSbP
import Derived.Test.YtibjkhepedfpiaaGreatDoorSgStA
namespace Go.Proofs.YtibjkhepedfpiaaGreatDoor.SbA
open Go Go.RowKit SeA Q Mem Rg Ap ApG St CrB Tab TmA SlP SlR SlS SlW BuA BuB BuF StP StA SbP
set_option maxRecDepth 100000
theorem slot_any (p u:Int) (w:World):Calls Tryz.prog 61 #[.int .i64 p,.int .i64 u] w fun e w'=>e= .returned (.bool (decide (slotOk p u)))∧w=w':=by
 have HR:=Lib.hid (show decide (slotOk p u)=(decide (0≤p)&&(decide (p<1099511627776)&&(decide (1≤u)&&decide (u≤1048576))))from by
  by_cases h1:0≤p<;>by_cases h2:p<1099511627776<;>by_cases h3:1≤u<;>by_cases h4:u≤1048576<;>simp[slotOk,h1,h2,h3,h4])
 obtain⟨R,hR⟩: ∃R,decide (slotOk p u)=R:=⟨_,rfl⟩;rw[hR]at HR ⊢;clear hR
 go_enter Tryz.func61,Tryz.ntmps61
 go_wp2_with fail
 all_goals
  go_ret;refine⟨?_,rfl⟩;rw[HR.out]
  simp_all
  try omega
theorem delta_bad (u:Int) (w:World) (h: ¬(1≤u∧u≤1048576)):Calls Tryz.prog 33 #[.int .i64 0,.int .i64 0,.int .i64 u] w fun e w'=>e= .returned (.tuple #[.int .i64 0,.int .i64 1])∧Below w.heap.size w w':=by
 have k1:=fun V=>slot_any 0 u V;rw[decide_eq_false (show ¬slotOk 0 u from fun hh=>h ⟨hh.2.2.1,hh.2.2.2⟩)]at k1;clear h
 go_enter Tryz.func33,Tryz.ntmps33
 go_wp2_with fail
 (with_reducible refine(k1 _).mono ?_);rintro e1 W1 ⟨rfl,rfl⟩
 go_wp2_with fail
 go_ret2
 exact⟨rfl,Below.refl _ _⟩
theorem delta_any (fr tw u:Int) (w:World) (hu:1≤u∧u≤1048576) (h0:0≤fr) (h1:fr≤tw) (h2:tw≤4000):Calls Tryz.prog 33 #[.int .i64 fr,.int .i64 tw,.int .i64 u] w fun e w'=>e= .returned (.tuple #[.int .i64 (dlD fr tw u),.int .i64 0])∧Below w.heap.size w w':=by
 have k1:=fun V=>slot_any fr u V;have k2:=fun V=>slot_any tw u V;rw[decide_eq_true (show slotOk fr u from⟨h0,by omega,hu.1,hu.2⟩)]at k1;rw[decide_eq_true (show slotOk tw u from⟨by omega,by omega,hu.1,hu.2⟩)]at k2;have hd:=delta_ok hu.1 h0 h1 h2;have k3:=fun V=>within12 (dlD fr tw u) V;rw[show inR 4095 (dlD fr tw u)=true by unfold inR;rw[decide_eq_true hd.1,decide_eq_true hd.2];rfl]at k3;obtain⟨d,hdd⟩: ∃d,dlD fr tw u=d:=⟨_,rfl⟩;have q1:(tw-fr+u-1)/u=d:=hdd;have q2:(tw-fr+u-1).tdiv u=d:=by rw[Int.tdiv_eq_ediv_of_nonneg (by omega)];exact hdd
 rw[hdd]at k3 hd ⊢;have hu1:=hu.1;have hu2:=hu.2;have hto:decide (tw<fr)=false:=decide_eq_false (by omega);have huz:(u==0)=false:=beq_eq_false_iff_ne.2 (by omega);have hd1:=hd.1;have hd2:=hd.2;clear hdd hu hd
 go_enter Tryz.func33,Tryz.ntmps33
 go_wp2_with fail
 (with_reducible refine(k1 _).mono ?_);rintro e1 W1 ⟨rfl,rfl⟩
 go_wp2_with fail
 (with_reducible refine(k2 _).mono ?_);rintro e2 W2 ⟨rfl,rfl⟩
 go_wp2_with fail
 (with_reducible refine(k3 _).mono ?_);rintro e3 W3 ⟨rfl,rfl⟩
 go_wp2_with fail
 go_ret2
 exact⟨rfl,Below.refl _ _⟩
def afV (o:Option Int):Value:= .tuple #[.int .i64 (o.getD 0),.bool o.isSome]
theorem after_nil (pid:Int):afterO pid []=none:=rfl
theorem after_cons (pid:Int) (y:Br) (t:List Br):afterO pid (y::t)=if y.pid=pid then some y.at_ else afterO pid t:=by
 unfold afterO;rw[List.find?_cons];by_cases h:y.pid=pid
 ·rw[decide_eq_true h,if_pos h];rfl
 ·rw[decide_eq_false h,if_neg h]
set_option maxHeartbeats 3200000 in
theorem after_any (a:Option Addr) (n c k:Nat) (L:List Bu) (w:World) (hn:L.length=n) (hl:n≤100000) (hc:n≤c) (hL:Seq enBu 3 w a L) (x:Bu) (hx:L[k]? =some x):
 Calls Tryz.prog 34 #[.slice a n c,.int .i64 (k:Int)] w fun e w'=>e= .returned (afV (afterO x.b.pid ((L.map Bu.b).drop (k+1))))∧Below w.heap.size w w':=by
 obtain⟨R,hR⟩: ∃R:Ending→World→Prop,R=(fun e w'=>e= .returned (afV (afterO x.b.pid ((L.map Bu.b).drop (k+1))))∧Below w.heap.size w w'):=⟨_,rfl⟩;rw[←hR];have HR:=Lib.hid hR;have hkn:k<n:=by rw[←hn];exact(List.getElem?_eq_some_iff.1 hx).1
 obtain⟨b0,o0,rfl,hlt,hc0⟩:=hL k x hx;have HL:=Lib.hid hL;have HN:=Lib.hid hn;have c0:=hc0 0 _ rfl;rw[off_eq,Nat.add_zero]at c0;have HC0:=Lib.hid c0;obtain⟨pid,hp⟩: ∃p,x.b.pid=p:=⟨_,rfl⟩;rw[hp]at HR HC0;have k0:(0:Int)≤(k:Int):=Int.natCast_nonneg _;have k1:(k:Int)<(n:Int):=by omega
 have k2:(k:Int)+1≤(n:Int):=by omega
 have k3:(n:Int)≤(c:Int):=by omega
 clear hR hL hn hc0 c0 hx hp;by_cases hkk:k+1=n
 ·have h0:(L.map Bu.b).drop (k+1)=[]:=List.drop_of_length_le (by rw[List.length_map,HN.out];omega)
  rw[h0,after_nil]at HR;subst hkk;clear h0
  go_enter Tryz.func34,Tryz.ntmps34
  go_wp2_with fail
  all_goals
   go_loopw [13] (fun iv wr=>iv= .int .i64 0∧w=wr) (fun _ _=>0)
   case atStart=>exact⟨rfl,rfl⟩
   case round=>
    obtain⟨rfl,rfl⟩:=hrel
    go_wp2_with fail
    rw[HR.out];exact⟨rfl,Below.refl _ _⟩
 ·have k4:(k:Int)+1<(n:Int):=by omega
  have k5:(k:Int)+1<(c:Int):=by omega
  go_enter Tryz.func34,Tryz.ntmps34
  go_wp2_with fail
  go_loopw [13] (fun iv wr=> ∃j:Nat,k+1+j≤n∧iv= .int .i64 j∧Hid (afterO pid ((L.map Bu.b).drop (k+1+j))=afterO pid ((L.map Bu.b).drop (k+1)))∧Below w.heap.size w wr) (fun iv _=>n-(intOf iv).toNat)
  case atStart=>exact⟨0,by omega,rfl,Lib.hid rfl,Below.refl _ _⟩
  case round=>
   obtain⟨j,hj,rfl,HJ,hb⟩:=hrel;by_cases hjn:k+1+j<n
   ·have t1:decide ((j:Int)<(n:Int)-((k:Int)+1))=true:=decide_eq_true (by omega)
    have t1':decide (j<n-(k+1))=true:=decide_eq_true (by omega);obtain⟨y,hy⟩: ∃y,L[k+1+j]? =some y:=⟨_,List.getElem?_eq_getElem (by rw[HN.out];exact hjn)⟩;obtain⟨B',O',he,lt',p'⟩:=HL.out (k+1+j) y hy;injection he with he
    injection he with e1 e2
    subst e1 e2;have hyb:(L.map Bu.b)[k+1+j]? =some y.b:=by rw[List.getElem?_map,hy];rfl
    have hdr:(L.map Bu.b).drop (k+1+j)=y.b::(L.map Bu.b).drop (k+1+j+1):=by
     obtain⟨h1,h2⟩:=List.getElem?_eq_some_iff.1 hyb;rw[List.drop_eq_getElem_cons h1,h2]
    rw[hdr,after_cons]at HJ;have z0:=p' 0 _ rfl;have z1:=p' 1 _ rfl;have z2:=p' 2 _ rfl;rw[off_eq,show o0+(k+1+j)*3=o0+(k+1)*3+j*3 by omega]at z0 z1 z2;rw[Nat.add_zero]at z0;obtain⟨⟨py,ay,Sy⟩,ya,yc⟩:=y;dsimp only at z0 z1 z2 HJ;obtain⟨ns,hns⟩: ∃ns,Sy.length=ns:=⟨_,rfl⟩;rw[hns]at z2;have d0:=(hb.cell (p:=⟨b0,o0+(k+1)*3+j*3,none⟩) lt').trans z0;have d1:=(hb.cell (p:=⟨b0,o0+(k+1)*3+j*3+1,none⟩) lt').trans z1;have d2:=(hb.cell (p:=⟨b0,o0+(k+1)*3+j*3+2,none⟩) lt').trans z2;have hba:=hb.alloc hb.size (.cells #[.int .i64 py,.int .i64 ay,.slice ya ns yc] 36);have hk:=Blk.new wr 36 #[.int .i64 py,.int .i64 ay,.slice ya ns yc];have s0:=fun p=>((hba.trans ((below_ext _ p).mono hba.size)).cell (p:=⟨b0,o0+k*3,none⟩) hlt).trans HC0.out;have f0:=fun pX=>Blk.cell (blk_ext (hk) pX) 0 (v:= .int .i64 py) rfl;have f1:=fun pX=>Blk.cell (blk_ext (hk) pX) 1 (v:= .int .i64 ay) rfl;have j0:(0:Int)≤(j:Int):=Int.natCast_nonneg _;have j1:j<n-(k+1):=by omega
    have hkx:=fun p=>Blk.cell (blk_ext hk p) 1 (v:= .int .i64 ay) rfl;clear hy hyb hdr p' z0 z1 z2 hns lt' hb;by_cases hp:py=pid
    ·subst hp
     rw[if_pos rfl]at HJ
     go_wp2_with fail
     refine Go.Proofs.YtibjkhepedfpiaaGreatDoor.Q.region_ext (by kernel_rfl) (by kernel_rfl) ?_
     repeat (go_big_quiet_step (fail))
     refine wpQuiet_nil ?_;rintro w9 ⟨pq,rfl⟩;have hbq:=hba.trans ((below_ext _ pq).mono hba.size);have g1:=hkx pq;obtain⟨wb,hwb⟩: ∃wb,ext (wr.alloc (.cells #[.int .i64 py,.int .i64 ay,.slice ya ns yc] 36)) pq=wb:=⟨_,rfl⟩;rw[hwb]at hbq g1 ⊢;clear s0 f0 f1 hkx hwb d0 d1 d2 hba hk
     go_wp2_with fail
     rw[HR.out];exact⟨by rw[←HJ.out];rfl,hbq⟩
    ·have q3:(py==pid)=false:=beq_eq_false_iff_ne.2 hp
     rw[if_neg hp]at HJ;clear hp
     go_wp2_with fail
     refine Go.Proofs.YtibjkhepedfpiaaGreatDoor.Q.region_ext (by kernel_rfl) (by kernel_rfl) ?_
     repeat (go_big_quiet_step (fail))
     refine wpQuiet_nil ?_;rintro w9 ⟨pq,rfl⟩;have hbq:=hba.trans ((below_ext _ pq).mono hba.size);clear s0 f0 f1 hkx d0 d1 d2 hba hk
     go_wp2_with fail
     go_roundw
     case rel=>exact⟨j+1,by omega,by go_num,by rw[show k+1+(j+1)=k+1+j+1 by omega];exact HJ,hbq⟩
     case measure=>simp[intOf];omega
   ·have hjn2:k+1+j=n:=by omega
    have t1:decide ((j:Int)<(n:Int)-((k:Int)+1))=false:=decide_eq_false (by omega);have t1':decide (j<n-(k+1))=false:=decide_eq_false (by omega);rw[hjn2,List.drop_of_length_le (by rw[List.length_map,HN.out];exact Nat.le_refl _),after_nil]at HJ;clear hjn hjn2
    go_wp2_with fail
    rw[HR.out];exact⟨by rw[←HJ.out];rfl,hb⟩
theorem stamped_any (s:ByteArray) (u fr:Int) (tw:Option Int) (w:World) (hT:Tab 2 w) (hs:s.size≤1099511627776) (hu:1≤u∧u≤1048576) (hto: ∀t,tw=some t→0≤fr∧fr≤t∧t≤4000):
 Calls Tryz.prog 35 #[.string s,.int .i64 u,.int .i64 fr,.int .i64 (tw.getD 0),.bool tw.isSome] w fun e w'=>e= .returned (.tuple #[.string (sdS u tw s fr),.int .i64 0])∧Below w.heap.size w w':=by
 have kt:=times_any s w hT hs;by_cases h0:tmE s=0
 ·rw[h0]at kt
  cases tw with
  |none=>
   have hx:=(stamp_ok (d:=0) h0 (by decide)).e;have HX:=Lib.hid (show sdS u none s fr=stS s 0 from by unfold sdS;rw[if_neg (by simpa using h0)]);have ks:=fun V (hV:Below w.heap.size w V)=>BuB.stamp_any s 0 V (hT.be hV) hs;rw[hx]at ks;obtain⟨Z,hZ⟩: ∃Z,stS s 0=Z:=⟨_,rfl⟩;rw[hZ]at ks HX;unfold Ti.vals at kt;clear hZ hx h0 hT hto hu;rw[HX.out];dsimp only[Option.getD,Option.isSome]
   go_enter Tryz.func35,Tryz.ntmps35
   go_wp2_with fail
   (with_reducible refine(kt).mono ?_);rintro e1 W1 ⟨rfl,hb1⟩
   have hb2:=hb1.alloc hb1.size (.cells (tmT s).vals 46);have ks1:=ks _ hb2;unfold Ti.vals at ks1 hb2;clear kt ks
   go_wp2_with fail
   (with_reducible refine(ks1).mono ?_);rintro e2 W2 ⟨rfl,hb3⟩
   have hb4:=hb2.trans (hb3.mono hb2.size)
   go_wp2_with fail
   go_ret2
   exact⟨rfl,hb4⟩
  |some t=>
   obtain⟨f0,f1,f2⟩:=hto t rfl;have hd:=delta_ok hu.1 f0 f1 f2;have hx:=(stamp_ok (d:=dlD fr t u) h0 hd).e;have HX:=Lib.hid (show sdS u (some t) s fr=stS s (dlD fr t u)from by unfold sdS;rw[if_neg (by simpa using h0)]);have ks:=fun V (hV:Below w.heap.size w V)=>BuB.stamp_any s (dlD fr t u) V (hT.be hV) hs;have kd:=fun V=>delta_any fr t u V hu f0 f1 f2;rw[hx]at ks;obtain⟨Z,hZ⟩: ∃Z,stS s (dlD fr t u)=Z:=⟨_,rfl⟩;rw[hZ]at ks HX;obtain⟨d,hdd⟩: ∃d,dlD fr t u=d:=⟨_,rfl⟩;rw[hdd]at ks kd;unfold Ti.vals at kt;clear hZ hx h0 hT hto hu hd hdd f0 f1 f2;rw[HX.out];dsimp only[Option.getD,Option.isSome]
   go_enter Tryz.func35,Tryz.ntmps35
   go_wp2_with fail
   (with_reducible refine(kt).mono ?_);rintro e1 W1 ⟨rfl,hb1⟩
   have hb2:=hb1.alloc hb1.size (.cells (tmT s).vals 46);unfold Ti.vals at hb2;clear kt
   go_wp2_with fail
   (with_reducible refine(kd _).mono ?_);rintro e3 W3 ⟨rfl,hb3⟩
   have hb4:=hb2.trans (hb3.mono hb2.size);have ks1:=ks _ hb4;clear ks kd hb3 hb2 hb1
   go_wp2_with fail
   (with_reducible refine(ks1).mono ?_);rintro e2 W2 ⟨rfl,hb5⟩
   have hb6:=hb4.trans (hb5.mono hb4.size)
   go_wp2_with fail
   go_ret2
   exact⟨rfl,hb6⟩
 ·have HX:=Lib.hid (show sdS u tw s fr=s from by unfold sdS;rw[if_pos h0])
  have t0:(tmE s==0)=false:=beq_eq_false_iff_ne.2 h0;obtain⟨E,hE⟩: ∃E,tmE s=E:=⟨_,rfl⟩;rw[hE]at kt t0;unfold Ti.vals at kt;rw[HX.out];clear hE h0 hT hto hu
  go_enter Tryz.func35,Tryz.ntmps35
  go_wp2_with fail
  (with_reducible refine(kt).mono ?_);rintro e1 W1 ⟨rfl,hb1⟩
  have hb2:=hb1.alloc hb1.size (.cells (tmT s).vals 46);unfold Ti.vals at hb2
  go_wp2_with fail
  go_ret2
  exact⟨rfl,hb2⟩
end Go.Proofs.YtibjkhepedfpiaaGreatDoor.SbA
