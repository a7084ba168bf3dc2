import Derived.Test.YtibjkhepedfpiaaGreatDoorSgTab
import Derived.Test.YtibjkhepedfpiaaGreatDoorSgPkT
namespace Go.Proofs.YtibjkhepedfpiaaGreatDoor.FcA
open Go Go.RowKit Q Mem Rg Ap St BiP SeA SeC SeE SeP TmA TmB Tab
structure Fp where
 pad:Int
 number:Int
 last:Int
 times:Ti
 text:ByteArray
def Fp.vals (p:Fp):Array Value:= #[.int .i64 p.pad,.int .i64 p.number,.int .i64 p.last,.int .i64 p.times.delta,.bool p.times.table,.bool p.times.frame,.int .i64 p.times.at_,.string p.text]
def Fp.ok (p:Fp):Prop:=(0≤p.pad∧p.pad≤191)∧(0≤p.last∧p.last<64)∧0≤p.number∧p.number≤p.last
instance (p:Fp):Decidable p.ok:=by unfold Fp.ok;infer_instance
def Fp.chk (p:Fp):Int:=if p.ok∧p.times.ok then(if isSz p.text.size then 0 else 12)else 15
def Fp.sec (p:Fp):Sc:=⟨120,true,p.pad*256+255,31,true,p.number,p.last,encT p.times++p.text⟩
def Fp.enc (p:Fp):ByteArray:=if p.chk=0 then bytesS p.sec else nob
theorem fchk_zero {p:Fp} (h:p.chk=0):p.ok∧p.times.ok∧isSz p.text.size=true:=by
 unfold Fp.chk at h
 split at h
 ·rename_i hk
  split at h
  ·exact⟨hk.1,hk.2,by assumption⟩
  ·omega
 ·omega
theorem sec_ok {p:Fp} (h:p.chk=0):p.sec.chk=0:=by
 obtain⟨⟨⟨a1,a2⟩,⟨b1,b2⟩,c1,c2⟩,h2,h3⟩:=fchk_zero h;refine chk_ok ?_ ?_
 ·unfold Sc.ok Fp.sec;dsimp only;omega
 ·have h4:(encT p.times).size=4:=by unfold encT;rw[if_pos (tchk_ok h2),str_size,tm_len]
  have h5:=isSz_true h3;show ¬4084<(encT p.times++p.text).size;rw[ByteArray.size_append,h4];omega
set_option maxRecDepth 100000
set_option maxHeartbeats 1600000 in
theorem fcheck_any (p:Fp) (w:World) (hT:Tab 2 w):Calls Tryz.prog 125 #[.agg p.vals] w fun e w'=>e= .returned (.int .i64 p.chk)∧Below w.heap.size w w':=by
 have kt:=fun V=>tcheck_any p.times V;have hc0: ¬p.ok→p.chk=15:=fun h=>by unfold Fp.chk;rw[if_neg (fun h'=>h h'.1)]
 have hc1: ¬p.times.ok→p.chk=15:=fun h=>by unfold Fp.chk;rw[if_neg (fun h'=>h h'.2)]
 have hc2:p.ok→p.times.ok→p.chk=if isSz p.text.size then 0 else 12:=fun h h'=>by unfold Fp.chk;rw[if_pos ⟨h,h'⟩]
 have htc:p.times.chk=if p.times.ok then 0 else 15:=rfl;have kc:=fun V (h:Tab 2 V)=>contains_any 2 (p.text.size:Int) V h;obtain⟨c,hc⟩: ∃c,p.chk=c:=⟨_,rfl⟩;rw[hc]at hc0 hc1 hc2 ⊢;unfold Fp.ok at hc0 hc2;have HB:=bk1 w 193 p.vals;unfold Fp.vals at HB ⊢;obtain⟨pa,nu,la,ti,te⟩:=p;obtain⟨d,ta,fr,a⟩:=ti;unfold Ti.vals at kt;dsimp only at*;have HB:=Lib.hid HB;have H0:=Lib.hid hc0;have HT:=Lib.hid (hT.be (HB.out.be));by_cases hok:((0≤pa∧pa≤191)∧(0≤la∧la<64)∧0≤nu∧nu≤la)
 ·have t1:decide (pa<0)=false:=by simp;omega
  have t2:decide (191<pa)=false:=by simp;omega
  have t3:decide (la<0)=false:=by simp;omega
  have t4:decide (64≤la)=false:=by simp;omega
  have t5:decide (nu<0)=false:=by simp;omega
  have t6:decide (la<nu)=false:=by simp;omega
  by_cases htk:Ti.ok ⟨d,ta,fr,a⟩
  ·rw[htc,if_pos htk]at kt
   replace hc2:=Lib.hid (hc2 hok htk);clear hc0 hc1 htc hok htk hc hT H0
   go_enter Tryz.func125,Tryz.ntmps125
   go_wp2_with fail
   (with_reducible refine(kt _).mono ?_);rintro e1 W1 ⟨rfl,hb1⟩
   have HB1:=Lib.hid (HB.out.below hb1);have HT1:=Lib.hid (HT.out.be hb1);clear HB HT hb1 kt;have c7:=Blk.cell (HB1.out.nth 0 rfl) 7 (v:= .string te) rfl
   go_wp2_with fail
   have c7:=fun pX=>Blk.cell (blk_ext (HB1.out.nth 0 rfl) pX) 7 (v:= .string te) rfl;refine Go.Proofs.YtibjkhepedfpiaaGreatDoor.Q.region_ext (by kernel_rfl) (by kernel_rfl) ?_
   repeat (go_big_quiet_step ((go_at_call 116;exact ext_call_same (kc _ (HT1.out.ext _)))))
   refine wpQuiet_nil ?_;rintro w9 ⟨pq,rfl⟩;have hE:=(HB1.out.px pq).be
   cases hsz:isSz (te.size:Int)with
   |true=>
    rw[hsz]at hc2 kc
    go_wp2_with fail
    go_ret;exact⟨by rw[hc2.out];rfl,hE⟩
   |false=>
    rw[hsz]at hc2 kc
    go_wp2_with fail
    go_ret;exact⟨by rw[hc2.out];rfl,hE⟩
  ·rw[htc,if_neg htk]at kt
   replace hc1:=Lib.hid (hc1 htk);clear hc0 hc2 htc hok htk hc hT H0 kc
   go_enter Tryz.func125,Tryz.ntmps125
   go_wp2_with fail
   (with_reducible refine(kt _).mono ?_);rintro e1 W1 ⟨rfl,hb1⟩
   have hE:=(HB.out.below hb1).be
   go_wp2_with fail
   go_ret;exact⟨by rw[hc1.out];rfl,hE⟩
 ·replace hc0:=Lib.hid (hc0 hok)
  clear hc1 hc2 htc hc hT kt kc H0;have hE:=HB.out.be;by_cases t1:pa<0
  ·have t1:decide (pa<0)=true:=by simpa using t1
   clear hok
   go_enter Tryz.func125,Tryz.ntmps125
   go_wp2_with fail
   go_ret;exact⟨by rw[hc0.out];rfl,hE⟩
  ·have r1:decide (pa<0)=false:=by simpa using t1
   by_cases t2:191<pa
   ·have t2:decide (191<pa)=true:=by simpa using t2
    clear hok t1
    go_enter Tryz.func125,Tryz.ntmps125
    go_wp2_with fail
    go_ret;exact⟨by rw[hc0.out];rfl,hE⟩
   ·have r2:decide (191<pa)=false:=by simpa using t2
    by_cases t3:la<0
    ·have t3:decide (la<0)=true:=by simpa using t3
     clear hok t1 t2
     go_enter Tryz.func125,Tryz.ntmps125
     go_wp2_with fail
     go_ret;exact⟨by rw[hc0.out];rfl,hE⟩
    ·have r3:decide (la<0)=false:=by simpa using t3
     by_cases t4:64≤la
     ·have t4:decide (64≤la)=true:=by simpa using t4
      clear hok t1 t2 t3
      go_enter Tryz.func125,Tryz.ntmps125
      go_wp2_with fail
      go_ret;exact⟨by rw[hc0.out];rfl,hE⟩
     ·have r4:decide (64≤la)=false:=by simpa using t4
      by_cases t5:nu<0
      ·have t5:decide (nu<0)=true:=by simpa using t5
       clear hok t1 t2 t3 t4
       go_enter Tryz.func125,Tryz.ntmps125
       go_wp2_with fail
       go_ret;exact⟨by rw[hc0.out];rfl,hE⟩
      ·have r5:decide (nu<0)=false:=by simpa using t5
       have t6:decide (la<nu)=true:=by simp;omega
       clear hok t1 t2 t3 t4 t5
       go_enter Tryz.func125,Tryz.ntmps125
       go_wp2_with fail
       go_ret;exact⟨by rw[hc0.out];rfl,hE⟩
end Go.Proofs.YtibjkhepedfpiaaGreatDoor.FcA
namespace Go.Proofs.YtibjkhepedfpiaaGreatDoor.FcB
open Go Go.RowKit Q Mem Rg Ap St BiP SeA SeC SeE SeP TmA TmB Tab FcA
theorem or255 (n:Nat) (h:n≤255):bits .or .i64 ((n:Int)*256) 255=((n*256+255:Nat):Int):=by
 have: ∀m,m<256→bits .or .i64 (((m:Nat):Int)*256) 255=((m*256+255:Nat):Int):=by decide+kernel
 exact this n (by omega)
set_option maxRecDepth 100000
theorem framed_any (n:Nat) (nu la:Int) (b:ByteArray) (w:World) (h:n≤255):Calls Tryz.prog 126 #[.int .i64 (n:Int),.int .i64 nu,.int .i64 la,.string b] w fun e w'=>e= .returned (.agg (Sc.vals ⟨120,true,(n:Int)*256+255,31,true,nu,la,b⟩))∧Below w.heap.size w w':=by
 have ho:=or255 n h;have hB:=Lib.hid (bk1 w 235 #[.int .i64 0,.bool false,.int .i64 0,.int .i64 0,.bool false,.int .i64 0,.int .i64 0,.string nob]);unfold Sc.vals;dsimp only;have z:(n:Int)≤255:=by omega
 have HE:=Lib.hid (show((n*256+255:Nat):Int)=(n:Int)*256+255 by omega);rw[←HE.out];clear h
 go_enter Tryz.func126,Tryz.ntmps126
 go_wp2_with (refine wpList_store_blk (g:=w.heap.size) (T:=235) (cs':= #[.int .i64 120,.bool true,.int .i64 ((n*256+255:Nat):Int),.int .i64 31,.bool true,.int .i64 nu,.int .i64 la,.string b]) rfl 235 _ _ rfl rfl rfl (hB.out.nth 0 rfl) (by kernel_rfl) (by kernel_rfl) (by kernel_rfl) (by kernel_rfl) ?_;intro W9 hW9 hg9 hz9)
 have hVE:=hB.out.be.trans (below_of_only hg9 hB.out.be.size (fun k hk=>by injection hk with hk;omega));exact bodyPost_ret (v:= .agg #[.int .i64 120,.bool true,.int .i64 ((n*256+255:Nat):Int),.int .i64 31,.bool true,.int .i64 nu,.int .i64 la,.string b]) (results_cell_row rfl _ _ w.heap.size 235 _ (0,0) _ rfl hW9 Tryz.underlying235 rfl (by kernel_rfl)) rfl ⟨by rfl,hVE⟩
set_option maxHeartbeats 800000 in
theorem fenc_any (p:Fp) (w:World) (hT:Tab 2 w):Calls Tryz.prog 92 #[.agg p.vals] w fun e w'=>e= .returned (.tuple #[.string p.enc,.int .i64 p.chk])∧Below w.heap.size w w':=by
 have kc:=fun V (h:Tab 2 V)=>fcheck_any p V h;have kt:=fun V=>enct_any p.times V;have HB:=Lib.hid (bk1 w 193 p.vals);have HT:=Lib.hid (hT.be (HB.out.be));by_cases h:p.chk=0
 ·have hs:=sec_ok h
  have ks:=fun V=>enc_any p.sec V;have hE:p.enc=bytesS p.sec:=by unfold Fp.enc;rw[if_pos h]
  have hE2:encS p.sec=bytesS p.sec:=by unfold encS;rw[if_pos hs]
  rw[hE2,hs]at ks;rw[hE,h];rw[h]at kc;obtain⟨⟨⟨a1,a2⟩,⟨b1,b2⟩,c1,c2⟩,h2,h3⟩:=fchk_zero h;rw[tchk_ok h2]at kt;obtain⟨S,hS⟩: ∃S,bytesS p.sec=S:=⟨_,rfl⟩;rw[hS]at ks ⊢;unfold Fp.sec at ks;have h4:(encT p.times).size=4:=by unfold encT;rw[if_pos (tchk_ok h2),str_size,tm_len]
  have h5:=isSz_true h3;obtain⟨T,hTe⟩: ∃T,encT p.times=T:=⟨_,rfl⟩;rw[hTe]at kt ks h4;unfold Fp.vals at kc HB HT ⊢;obtain⟨pa,nu,la,ti,te⟩:=p;obtain⟨d,ta,fr,a⟩:=ti;unfold Ti.vals at kt;dsimp only at*;have ha:=fun V=>add_at T te (by omega) V;obtain⟨n,rfl⟩: ∃n:Nat,pa=(n:Int):=⟨pa.toNat,by omega⟩;have kf:=fun V=>framed_any n nu la (T++te) V (by omega);obtain⟨X,hX⟩: ∃X,T++te=X:=⟨_,rfl⟩;rw[hX]at kf ks ha;unfold Sc.vals at ks kf;dsimp only at ks kf;clear hT h hs hE hE2 hS hTe hX h2 h3 h4 h5 a1 a2 b1 b2 c1 c2;have c0:=Blk.cell (HB.out.nth 0 rfl) 0 (v:= .int .i64 (n:Int)) rfl;have c1:=Blk.cell (HB.out.nth 0 rfl) 1 (v:= .int .i64 nu) rfl;have c2:=Blk.cell (HB.out.nth 0 rfl) 2 (v:= .int .i64 la) rfl;have c3:=Blk.cell (HB.out.nth 0 rfl) 3 (v:= .int .i64 d) rfl;have c4:=Blk.cell (HB.out.nth 0 rfl) 4 (v:= .bool ta) rfl;have c5:=Blk.cell (HB.out.nth 0 rfl) 5 (v:= .bool fr) rfl;have c6:=Blk.cell (HB.out.nth 0 rfl) 6 (v:= .int .i64 a) rfl;have c7:=Blk.cell (HB.out.nth 0 rfl) 7 (v:= .string te) rfl
  go_enter Tryz.func92,Tryz.ntmps92
  go_wp2_with fail
  (with_reducible refine(kc _ HT.out).mono ?_);rintro e1 W1 ⟨rfl,hb1⟩
  have HB1:=Lib.hid (HB.out.below hb1);clear kc c0 c1 c2 c3 c4 c5 c6 c7 HB HT hb1;have c0:=Blk.cell (HB1.out.nth 0 rfl) 0 (v:= .int .i64 (n:Int)) rfl;have c1:=Blk.cell (HB1.out.nth 0 rfl) 1 (v:= .int .i64 nu) rfl;have c2:=Blk.cell (HB1.out.nth 0 rfl) 2 (v:= .int .i64 la) rfl;have c3:=Blk.cell (HB1.out.nth 0 rfl) 3 (v:= .int .i64 d) rfl;have c4:=Blk.cell (HB1.out.nth 0 rfl) 4 (v:= .bool ta) rfl;have c5:=Blk.cell (HB1.out.nth 0 rfl) 5 (v:= .bool fr) rfl;have c6:=Blk.cell (HB1.out.nth 0 rfl) 6 (v:= .int .i64 a) rfl;have c7:=Blk.cell (HB1.out.nth 0 rfl) 7 (v:= .string te) rfl
  go_wp2_with fail
  (with_reducible refine(kt _).mono ?_);rintro e1 W2 ⟨rfl,hb2⟩
  have HB2:=Lib.hid (HB1.out.below hb2);clear kt c0 c1 c2 c3 c4 c5 c6 c7 HB1 hb2;have c0:=Blk.cell (HB2.out.nth 0 rfl) 0 (v:= .int .i64 (n:Int)) rfl;have c1:=Blk.cell (HB2.out.nth 0 rfl) 1 (v:= .int .i64 nu) rfl;have c2:=Blk.cell (HB2.out.nth 0 rfl) 2 (v:= .int .i64 la) rfl;have c3:=Blk.cell (HB2.out.nth 0 rfl) 3 (v:= .int .i64 d) rfl;have c4:=Blk.cell (HB2.out.nth 0 rfl) 4 (v:= .bool ta) rfl;have c5:=Blk.cell (HB2.out.nth 0 rfl) 5 (v:= .bool fr) rfl;have c6:=Blk.cell (HB2.out.nth 0 rfl) 6 (v:= .int .i64 a) rfl;have c7:=Blk.cell (HB2.out.nth 0 rfl) 7 (v:= .string te) rfl
  go_wp2_with fail
  (with_reducible refine(kf _).mono ?_);rintro e1 W3 ⟨rfl,hb3⟩
  have HB3:=Lib.hid (HB2.out.below hb3)
  go_wp2_with fail
  (with_reducible refine(ks _).mono ?_);rintro e1 W4 ⟨rfl,hb4⟩
  have hE:=(HB3.out.below hb4).be
  go_wp2_with fail
  go_ret2
  exact⟨rfl,hE⟩
 ·have hE:p.enc=nob:=by unfold Fp.enc;rw[if_neg h]
  rw[hE];obtain⟨c,hc⟩: ∃c,p.chk=c:=⟨_,rfl⟩;rw[hc]at h kc ⊢;have t1:(c !=0)=true:=by simpa using h
  unfold Fp.vals at kc HB HT ⊢;have c0:=Blk.cell (HB.out.nth 0 rfl) 0 (v:= .int .i64 p.pad) rfl;have c1:=Blk.cell (HB.out.nth 0 rfl) 1 (v:= .int .i64 p.number) rfl;have c2:=Blk.cell (HB.out.nth 0 rfl) 2 (v:= .int .i64 p.last) rfl;have c3:=Blk.cell (HB.out.nth 0 rfl) 3 (v:= .int .i64 p.times.delta) rfl;have c4:=Blk.cell (HB.out.nth 0 rfl) 4 (v:= .bool p.times.table) rfl;have c5:=Blk.cell (HB.out.nth 0 rfl) 5 (v:= .bool p.times.frame) rfl;have c6:=Blk.cell (HB.out.nth 0 rfl) 6 (v:= .int .i64 p.times.at_) rfl;have c7:=Blk.cell (HB.out.nth 0 rfl) 7 (v:= .string p.text) rfl;clear hE hc kt hT h
  go_enter Tryz.func92,Tryz.ntmps92
  go_wp2_with fail
  (with_reducible refine(kc _ HT.out).mono ?_);rintro e1 W1 ⟨rfl,hb1⟩
  have hE:=(HB.out.below hb1).be
  go_wp2_with fail
  go_ret2
  exact⟨rfl,hE⟩
end Go.Proofs.YtibjkhepedfpiaaGreatDoor.FcB
namespace Go.Proofs.YtibjkhepedfpiaaGreatDoor.FcC
open Go Go.RowKit Q Mem Rg Ap St BiP SeA SeC SeE SeEq SeI SeK SeP TmA TmB Tab FcA FcB
def zeroP:Fp:=⟨0,0,0,zeroT,nob⟩
def fpOf (s:Sc):Fp:=⟨s.ext/256,s.number,s.last,tmD (s.body.extract 0 4),s.body.extract 4 s.body.size⟩
def frm (s:Sc):Prop:=s.priv=true∧s.version=31∧s.now=true∧s.ext%256=255
instance (s:Sc):Decidable (frm s):=by unfold frm;infer_instance
def secE (s:Sc):Int:=if s.table≠120 then 14 else if ¬frm s then 12 else if s.body.size<4 then 10 else(fpOf s).chk
def fdE (t:ByteArray):Int:=if decE t≠0 then decE t else secE (decS t)
def fdP (t:ByteArray):Fp:=if fdE t=0 then fpOf (decS t)else zeroP
theorem fd_zero {t:ByteArray} {c:Int} (h:fdE t=c) (hc:c≠0):fdE t=c∧fdP t=zeroP:=⟨h,by unfold fdP;rw[if_neg (by rw[h];exact hc)]⟩
theorem frm_eq (s:Sc) (ht:s.table=120):decide (s=⟨120,true,s.ext/256*256+255,31,true,s.number,s.last,s.body⟩)=decide (frm s):=by
 rw[decide_eq_decide,sc_iff];unfold frm;dsimp only;constructor
 ·rintro⟨h1,h2,h3,h4,h5,h6,h7,h8⟩;exact⟨h2,h4,h5,by omega⟩
 ·rintro⟨h1,h2,h3,h4⟩;exact⟨ht,h1,by omega,h2,h3,rfl,rfl,rfl⟩
set_option maxRecDepth 100000
abbrev zc:Array Value:= #[.int .i64 0,.int .i64 0,.int .i64 0,.int .i64 0,.bool false,.bool false,.int .i64 0,.string nob]
theorem fd_bad (t:ByteArray) (w:World) (hs:t.size≤1099511627776) (h:decE t≠0):Calls Tryz.prog 157 #[.string t] w fun e w'=>e= .returned (.tuple #[.agg (fdP t).vals,.int .i64 (fdE t)])∧Below w.heap.size w w':=by
 have kd:=fun V=>decode_any t V hs;have HB:=Lib.hid (bk1 w 193 zc);have hE:fdE t=decE t:=by unfold fdE;rw[if_pos h]
 obtain⟨c,hc⟩: ∃c,decE t=c:=⟨_,rfl⟩;rw[hc]at kd h hE;have HE:=Lib.hid (fd_zero hE h);have t1:(c !=0)=true:=by simpa using h
 obtain⟨s,hse⟩: ∃s,decS t=s:=⟨_,rfl⟩;rw[hse]at kd;unfold Sc.vals at kd;clear hE hc hse h
 go_enter Tryz.func157,Tryz.ntmps157
 go_wp2_with fail
 (with_reducible refine(kd _).mono ?_);rintro e1 W1 ⟨rfl,hb1⟩
 have HB1:=Lib.hid ((HB.out.below hb1).new 235 s.vals);have HBE:=Lib.hid HB1.out.be;unfold Sc.vals at HB1 HBE;clear kd HB hb1
 go_wp2_with (refine wpList_store_blk (g:=w.heap.size) (T:=193) (cs':=zc) rfl 193 _ _ rfl rfl rfl (HB1.out.nth 1 rfl) (by kernel_rfl) (by kernel_rfl) (by kernel_rfl) (by kernel_rfl) ?_;intro W9 hW9 hg9 hz9)
 have hVE:=HBE.out.trans (below_of_only hg9 HBE.out.size (fun k hk=>by injection hk with hk;omega));exact bodyPost_ret (v:= .tuple #[.agg zc,.int .i64 c]) (by refine res_row (fn:=Tryz.f157) (p:=2) (q:=3) rfl _ _ w.heap.size 193 _ (0,0) _ ?_ hW9 Tryz.underlying193 rfl (by kernel_rfl);rfl) rfl ⟨by first|(rw[HE.out.1,HE.out.2];rfl),hVE⟩
theorem fd_kind (t:ByteArray) (w:World) (hs:t.size≤1099511627776) (h:decE t=0) (h1:(decS t).table≠120):Calls Tryz.prog 157 #[.string t] w fun e w'=>e= .returned (.tuple #[.agg (fdP t).vals,.int .i64 (fdE t)])∧Below w.heap.size w w':=by
 have kd:=fun V=>decode_any t V hs;have HB:=Lib.hid (bk1 w 193 zc);have HE:=Lib.hid (fd_zero (t:=t) (c:=14) (by unfold fdE;rw[if_neg (by simpa using h)];unfold secE;rw[if_pos h1]) (by decide));rw[h]at kd;obtain⟨s,hse⟩: ∃s,decS t=s:=⟨_,rfl⟩;rw[hse]at kd h1;have t1:(s.table !=120)=true:=by simpa using h1
 unfold Sc.vals at kd;clear hse h h1
 go_enter Tryz.func157,Tryz.ntmps157
 go_wp2_with fail
 (with_reducible refine(kd _).mono ?_);rintro e1 W1 ⟨rfl,hb1⟩
 have HB1:=Lib.hid ((HB.out.below hb1).new 235 s.vals);have HBE:=Lib.hid HB1.out.be;unfold Sc.vals at HB1 HBE;clear kd HB hb1
 go_wp2_with (refine wpList_store_blk (g:=w.heap.size) (T:=193) (cs':=zc) rfl 193 _ _ rfl rfl rfl (HB1.out.nth 1 rfl) (by kernel_rfl) (by kernel_rfl) (by kernel_rfl) (by kernel_rfl) ?_;intro W9 hW9 hg9 hz9)
 have hVE:=HBE.out.trans (below_of_only hg9 HBE.out.size (fun k hk=>by injection hk with hk;omega));exact bodyPost_ret (v:= .tuple #[.agg zc,.int .i64 14]) (by refine res_row (fn:=Tryz.f157) (p:=2) (q:=3) rfl _ _ w.heap.size 193 _ (0,0) _ ?_ hW9 Tryz.underlying193 rfl (by kernel_rfl);rfl) rfl ⟨by first|(rw[HE.out.1,HE.out.2];rfl),hVE⟩
set_option maxHeartbeats 800000 in
theorem fd_form (t:ByteArray) (w:World) (hs:t.size≤1099511627776) (h:decE t=0) (h1:(decS t).table=120) (h2: ¬frm (decS t)):Calls Tryz.prog 157 #[.string t] w fun e w'=>e= .returned (.tuple #[.agg (fdP t).vals,.int .i64 (fdE t)])∧Below w.heap.size w w':=by
 have kd:=fun V=>decode_any t V hs;have HB:=Lib.hid (bk1 w 193 zc);have HE:=Lib.hid (fd_zero (t:=t) (c:=12) (by unfold fdE;rw[if_neg (by simpa using h)];unfold secE;rw[if_neg (by simpa using h1),if_pos h2]) (by decide));have hr:=chk_zero (dec_enc h).1;obtain⟨⟨⟨ra1,ra2⟩,⟨rb1,rb2⟩,⟨rc1,rc2⟩,⟨rd1,rd2⟩,re1,re2⟩,hbs⟩:=hr;rw[h]at kd;obtain⟨s,hse⟩: ∃s,decS t=s:=⟨_,rfl⟩;rw[hse]at kd h1 h2 ra1 ra2 rb1 rb2 rc1 rc2 rd1 rd2 re1 re2 hbs;clear hse h;obtain⟨ta,pr,ex,ve,no,nu,la,bo⟩:=s;unfold Sc.vals at*;dsimp only at*;obtain⟨ex,rfl⟩: ∃n:Nat,ex=(n:Int):=⟨ex.toNat,by omega⟩;have kf:=fun V=>framed_any (ex/256) nu la bo V (by omega);unfold Sc.vals at kf;dsimp only at kf;rw[show((ex/256:Nat):Int)=(ex:Int)/256 by omega]at kf;have hx:=fun V=>eqTS ⟨120,pr,ex,ve,no,nu,la,bo⟩ ⟨120,true,(ex:Int)/256*256+255,31,true,nu,la,bo⟩ V;have hfe:=frm_eq ⟨120,pr,ex,ve,no,nu,la,bo⟩ rfl;dsimp only at hfe;rw[hfe]at hx;unfold Sc.vals at hx;dsimp only at hx;rw[h1]at*;rw[decide_eq_false h2]at hx;clear hfe ra1 ra2 rb1 rb2 rc1 rc2 rd1 rd2 re1 re2 hbs h1 h2
 go_enter Tryz.func157,Tryz.ntmps157
 go_wp2_with fail
 (with_reducible refine(kd _).mono ?_);rintro e1 W1 ⟨rfl,hb1⟩
 have HB1:=Lib.hid ((HB.out.below hb1).new 235 #[.int .i64 120,.bool pr,.int .i64 (ex:Int),.int .i64 ve,.bool no,.int .i64 nu,.int .i64 la,.string bo]);clear kd HB hb1
 go_wp2_with fail
 have c0:=fun pX=>Blk.cell (blk_ext (HB1.out.nth 0 rfl) pX) 0 (v:= .int .i64 120) rfl;have c1:=fun pX=>Blk.cell (blk_ext (HB1.out.nth 0 rfl) pX) 1 (v:= .bool pr) rfl;have c2:=fun pX=>Blk.cell (blk_ext (HB1.out.nth 0 rfl) pX) 2 (v:= .int .i64 (ex:Int)) rfl;have c3:=fun pX=>Blk.cell (blk_ext (HB1.out.nth 0 rfl) pX) 3 (v:= .int .i64 ve) rfl;have c4:=fun pX=>Blk.cell (blk_ext (HB1.out.nth 0 rfl) pX) 4 (v:= .bool no) rfl;have c5:=fun pX=>Blk.cell (blk_ext (HB1.out.nth 0 rfl) pX) 5 (v:= .int .i64 nu) rfl;have c6:=fun pX=>Blk.cell (blk_ext (HB1.out.nth 0 rfl) pX) 6 (v:= .int .i64 la) rfl;have c7:=fun pX=>Blk.cell (blk_ext (HB1.out.nth 0 rfl) pX) 7 (v:= .string bo) rfl;refine Go.Proofs.YtibjkhepedfpiaaGreatDoor.Q.region_ext (by kernel_rfl) (by kernel_rfl) ?_
 repeat (go_big_quiet_step ((go_at_call 126;exact ext_call (kf _))))
 refine wpQuiet_nil ?_;rintro w9 ⟨pq,rfl⟩;have HB2:=Lib.hid (HB1.out.px pq);have HBE:=Lib.hid HB2.out.be;clear kf c0 c1 c2 c3 c4 c5 c6 c7
 go_wp2_with (refine wpList_store_blk (g:=w.heap.size) (T:=193) (cs':=zc) rfl 193 _ _ rfl rfl rfl (HB2.out.nth 1 rfl) (by kernel_rfl) (by kernel_rfl) (by kernel_rfl) (by kernel_rfl) ?_;intro W9 hW9 hg9 hz9)
 have hVE:=HBE.out.trans (below_of_only hg9 HBE.out.size (fun k hk=>by injection hk with hk;omega));exact bodyPost_ret (v:= .tuple #[.agg zc,.int .i64 12]) (by refine res_row (fn:=Tryz.f157) (p:=2) (q:=3) rfl _ _ w.heap.size 193 _ (0,0) _ ?_ hW9 Tryz.underlying193 rfl (by kernel_rfl);rfl) rfl ⟨by first|(rw[HE.out.1,HE.out.2];rfl),hVE⟩
set_option maxHeartbeats 800000 in
theorem fd_short (t:ByteArray) (w:World) (hs:t.size≤1099511627776) (h:decE t=0) (h1:(decS t).table=120) (h2:frm (decS t)) (h3:(decS t).body.size<4):Calls Tryz.prog 157 #[.string t] w fun e w'=>e= .returned (.tuple #[.agg (fdP t).vals,.int .i64 (fdE t)])∧Below w.heap.size w w':=by
 have kd:=fun V=>decode_any t V hs;have HB:=Lib.hid (bk1 w 193 zc);have HE:=Lib.hid (fd_zero (t:=t) (c:=10) (by unfold fdE;rw[if_neg (by simpa using h)];unfold secE;rw[if_neg (by simpa using h1),if_neg (by simpa using h2),if_pos h3]) (by decide));have hr:=chk_zero (dec_enc h).1;obtain⟨⟨⟨ra1,ra2⟩,⟨rb1,rb2⟩,⟨rc1,rc2⟩,⟨rd1,rd2⟩,re1,re2⟩,hbs⟩:=hr;rw[h]at kd;obtain⟨s,hse⟩: ∃s,decS t=s:=⟨_,rfl⟩;rw[hse]at kd h1 h2 h3 ra1 ra2 rb1 rb2 rc1 rc2 rd1 rd2 re1 re2 hbs;clear hse h;obtain⟨ta,pr,ex,ve,no,nu,la,bo⟩:=s;unfold Sc.vals at*;dsimp only at*;obtain⟨ex,rfl⟩: ∃n:Nat,ex=(n:Int):=⟨ex.toNat,by omega⟩;have kf:=fun V=>framed_any (ex/256) nu la bo V (by omega);unfold Sc.vals at kf;dsimp only at kf;rw[show((ex/256:Nat):Int)=(ex:Int)/256 by omega]at kf;have hx:=fun V=>eqTS ⟨120,pr,ex,ve,no,nu,la,bo⟩ ⟨120,true,(ex:Int)/256*256+255,31,true,nu,la,bo⟩ V;have hfe:=frm_eq ⟨120,pr,ex,ve,no,nu,la,bo⟩ rfl;dsimp only at hfe;rw[hfe]at hx;unfold Sc.vals at hx;dsimp only at hx;rw[h1]at*;rw[decide_eq_true h2]at hx;clear hfe;have t3:decide ((bo.size:Int)<4)=true:=by simp;omega
 clear ra1 ra2 rb1 rb2 rc1 rc2 rd1 rd2 re1 re2 hbs h1 h2 h3
 go_enter Tryz.func157,Tryz.ntmps157
 go_wp2_with fail
 (with_reducible refine(kd _).mono ?_);rintro e1 W1 ⟨rfl,hb1⟩
 have HB1:=Lib.hid ((HB.out.below hb1).new 235 #[.int .i64 120,.bool pr,.int .i64 (ex:Int),.int .i64 ve,.bool no,.int .i64 nu,.int .i64 la,.string bo]);have hgw:w.heap.size<W1.heap.size:=(HB.out.below hb1).lt 0 rfl;clear kd HB hb1
 go_wp2_with fail
 have c0:=fun pX=>Blk.cell (blk_ext (HB1.out.nth 0 rfl) pX) 0 (v:= .int .i64 120) rfl;have c1:=fun pX=>Blk.cell (blk_ext (HB1.out.nth 0 rfl) pX) 1 (v:= .bool pr) rfl;have c2:=fun pX=>Blk.cell (blk_ext (HB1.out.nth 0 rfl) pX) 2 (v:= .int .i64 (ex:Int)) rfl;have c3:=fun pX=>Blk.cell (blk_ext (HB1.out.nth 0 rfl) pX) 3 (v:= .int .i64 ve) rfl;have c4:=fun pX=>Blk.cell (blk_ext (HB1.out.nth 0 rfl) pX) 4 (v:= .bool no) rfl;have c5:=fun pX=>Blk.cell (blk_ext (HB1.out.nth 0 rfl) pX) 5 (v:= .int .i64 nu) rfl;have c6:=fun pX=>Blk.cell (blk_ext (HB1.out.nth 0 rfl) pX) 6 (v:= .int .i64 la) rfl;have c7:=fun pX=>Blk.cell (blk_ext (HB1.out.nth 0 rfl) pX) 7 (v:= .string bo) rfl;refine Go.Proofs.YtibjkhepedfpiaaGreatDoor.Q.region_ext (by kernel_rfl) (by kernel_rfl) ?_
 repeat (go_big_quiet_step ((go_at_call 126;exact ext_call (kf _))))
 refine wpQuiet_nil ?_;rintro w9 ⟨pq,rfl⟩;have HB2:=Lib.hid (HB1.out.px pq);have HBE:=Lib.hid HB2.out.be;clear kf c0 c1 c2 c3 c4 c5 c6 c7;have d7:=Blk.cell (HB2.out.nth 0 rfl) 7 (v:= .string bo) rfl
 go_wp2_with (refine wpList_store_blk (g:=w.heap.size) (T:=193) (cs':=zc) rfl 193 _ _ rfl rfl rfl (HB2.out.nth 1 rfl) (by kernel_rfl) (by kernel_rfl) (by kernel_rfl) (by kernel_rfl) ?_;intro W9 hW9 hg9 hz9)
 have hVE:=HBE.out.trans (below_of_only hg9 HBE.out.size (fun k hk=>by injection hk with hk;omega));exact bodyPost_ret (v:= .tuple #[.agg zc,.int .i64 10]) (by refine res_row (fn:=Tryz.f157) (p:=2) (q:=3) rfl _ _ w.heap.size 193 _ (0,0) _ ?_ hW9 Tryz.underlying193 rfl (by kernel_rfl);rfl) rfl ⟨by first|(rw[HE.out.1,HE.out.2];rfl),hVE⟩
set_option maxHeartbeats 1600000 in
theorem fd_go (t:ByteArray) (w:World) (hT:Tab 2 w) (hs:t.size≤1099511627776) (h:decE t=0) (h1:(decS t).table=120) (h2:frm (decS t)) (h3: ¬(decS t).body.size<4):Calls Tryz.prog 157 #[.string t] w fun e w'=>e= .returned (.tuple #[.agg (fdP t).vals,.int .i64 (fdE t)])∧Below w.heap.size w w':=by
 have kd:=fun V=>decode_any t V hs;have HB:=Lib.hid (bk1 w 193 zc);have hE:fdE t=(fpOf (decS t)).chk:=by unfold fdE;rw[if_neg (by simpa using h)];unfold secE;rw[if_neg (by simpa using h1),if_neg (by simpa using h2),if_neg h3]
 have hP:fdP t=if fdE t=0 then fpOf (decS t)else zeroP:=rfl;have hr:=chk_zero (dec_enc h).1;obtain⟨⟨⟨ra1,ra2⟩,⟨rb1,rb2⟩,⟨rc1,rc2⟩,⟨rd1,rd2⟩,re1,re2⟩,hbs⟩:=hr;rw[h]at kd;obtain⟨s,hse⟩: ∃s,decS t=s:=⟨_,rfl⟩;rw[hse]at kd h1 h2 h3 hE hP ra1 ra2 rb1 rb2 rc1 rc2 rd1 rd2 re1 re2 hbs;clear hse h;have kc:=fun V (h:Tab 2 V)=>fcheck_any (fpOf s) V h;have kt:=fun V=>tdec_any (s.body.extract 0 4) V (by rw[ByteArray.size_extract];omega);have HT:=Lib.hid hT;rw[←hE]at kc;unfold Fp.vals fpOf at kc;unfold fpOf at hP;obtain⟨c,hc⟩: ∃c,fdE t=c:=⟨_,rfl⟩;rw[hc]at kc hP;have HC:=Lib.hid hc;obtain⟨ta,pr,ex,ve,no,nu,la,bo⟩:=s;unfold Sc.vals at*;dsimp only at*;obtain⟨ex,rfl⟩: ∃n:Nat,ex=(n:Int):=⟨ex.toNat,by omega⟩;have kf:=fun V=>framed_any (ex/256) nu la bo V (by omega);unfold Sc.vals at kf;dsimp only at kf;rw[show((ex/256:Nat):Int)=(ex:Int)/256 by omega]at kf;have hx:=fun V=>eqTS ⟨120,pr,ex,ve,no,nu,la,bo⟩ ⟨120,true,(ex:Int)/256*256+255,31,true,nu,la,bo⟩ V;have hfe:=frm_eq ⟨120,pr,ex,ve,no,nu,la,bo⟩ rfl;dsimp only at hfe;rw[hfe]at hx;unfold Sc.vals at hx;dsimp only at hx;rw[h1]at*;rw[decide_eq_true h2]at hx;clear hfe;have t3:decide ((bo.size:Int)<4)=false:=by simp;omega
 have t4:(4:Int)≤(bo.size:Int):=by omega
 obtain⟨TI,hTI⟩: ∃TI,tmD (bo.extract 0 4)=TI:=⟨_,rfl⟩;rw[hTI]at kt kc hP;unfold Ti.vals at kt;obtain⟨de,tb,fr,at'⟩:=TI;dsimp only at kt kc;have HP:=Lib.hid hP;clear ra1 ra2 rb1 rb2 rc1 rc2 rd1 rd2 re1 re2 hbs h1 h2 h3 hE hTI hP hT hc
 go_enter Tryz.func157,Tryz.ntmps157
 go_wp2_with fail
 (with_reducible refine(kd _).mono ?_);rintro e1 W1 ⟨rfl,hb1⟩
 have HB1:=Lib.hid ((HB.out.below hb1).new 235 #[.int .i64 120,.bool pr,.int .i64 (ex:Int),.int .i64 ve,.bool no,.int .i64 nu,.int .i64 la,.string bo]);have hgw:w.heap.size<W1.heap.size:=(HB.out.below hb1).lt 0 rfl;clear kd HB hb1
 go_wp2_with fail
 have c0:=fun pX=>Blk.cell (blk_ext (HB1.out.nth 0 rfl) pX) 0 (v:= .int .i64 120) rfl;have c1:=fun pX=>Blk.cell (blk_ext (HB1.out.nth 0 rfl) pX) 1 (v:= .bool pr) rfl;have c2:=fun pX=>Blk.cell (blk_ext (HB1.out.nth 0 rfl) pX) 2 (v:= .int .i64 (ex:Int)) rfl;have c3:=fun pX=>Blk.cell (blk_ext (HB1.out.nth 0 rfl) pX) 3 (v:= .int .i64 ve) rfl;have c4:=fun pX=>Blk.cell (blk_ext (HB1.out.nth 0 rfl) pX) 4 (v:= .bool no) rfl;have c5:=fun pX=>Blk.cell (blk_ext (HB1.out.nth 0 rfl) pX) 5 (v:= .int .i64 nu) rfl;have c6:=fun pX=>Blk.cell (blk_ext (HB1.out.nth 0 rfl) pX) 6 (v:= .int .i64 la) rfl;have c7:=fun pX=>Blk.cell (blk_ext (HB1.out.nth 0 rfl) pX) 7 (v:= .string bo) rfl;refine Go.Proofs.YtibjkhepedfpiaaGreatDoor.Q.region_ext (by kernel_rfl) (by kernel_rfl) ?_
 repeat (go_big_quiet_step ((go_at_call 126;exact ext_call (kf _))))
 refine wpQuiet_nil ?_;rintro w9 ⟨pq,rfl⟩;have HB2:=Lib.hid (HB1.out.px pq);have HBE:=Lib.hid HB2.out.be;clear kf c0 c1 c2 c3 c4 c5 c6 c7;have d0:=Blk.cell (HB2.out.nth 0 rfl) 0 (v:= .int .i64 120) rfl;have d1:=Blk.cell (HB2.out.nth 0 rfl) 1 (v:= .bool pr) rfl;have d2:=Blk.cell (HB2.out.nth 0 rfl) 2 (v:= .int .i64 (ex:Int)) rfl;have d3:=Blk.cell (HB2.out.nth 0 rfl) 3 (v:= .int .i64 ve) rfl;have d4:=Blk.cell (HB2.out.nth 0 rfl) 4 (v:= .bool no) rfl;have d5:=Blk.cell (HB2.out.nth 0 rfl) 5 (v:= .int .i64 nu) rfl;have d6:=Blk.cell (HB2.out.nth 0 rfl) 6 (v:= .int .i64 la) rfl;have d7:=Blk.cell (HB2.out.nth 0 rfl) 7 (v:= .string bo) rfl
 go_wp2_with fail
 (with_reducible refine(kt _).mono ?_);rintro e1 W3 ⟨rfl,hb3⟩
 have HB3:=Lib.hid ((HB2.out.below hb3).new 46 #[.int .i64 de,.bool tb,.bool fr,.int .i64 at']);clear kt HB2 hb3 HBE d0 d1 d2 d3 d4 d5 d6 d7
 go_wp2_with fail
 have hgt:W3.heap.size<(W3.alloc (.cells #[.int .i64 de,.bool tb,.bool fr,.int .i64 at'] 46)).heap.size:=HB3.out.lt 0 rfl;obtain⟨g3,hg3⟩: ∃g3,W3.heap.size=g3:=⟨_,rfl⟩;obtain⟨V3,hV3⟩: ∃V3,W3.alloc (.cells #[.int .i64 de,.bool tb,.bool fr,.int .i64 at'] 46)=V3:=⟨_,rfl⟩;rw[hV3]at HB3 hgt ⊢;rw[hg3]at HB3 hgt ⊢;clear hg3 hV3;have y0:=fun pX=>Blk.cell (blk_ext (HB3.out.nth 0 rfl) pX) 0 (v:= .int .i64 de) rfl;have y1:=fun pX=>Blk.cell (blk_ext (HB3.out.nth 0 rfl) pX) 1 (v:= .bool tb) rfl;have y2:=fun pX=>Blk.cell (blk_ext (HB3.out.nth 0 rfl) pX) 2 (v:= .bool fr) rfl;have y3:=fun pX=>Blk.cell (blk_ext (HB3.out.nth 0 rfl) pX) 3 (v:= .int .i64 at') rfl;have d0:=fun pX=>Blk.cell (blk_ext (HB3.out.nth 1 rfl) pX) 0 (v:= .int .i64 120) rfl;have d1:=fun pX=>Blk.cell (blk_ext (HB3.out.nth 1 rfl) pX) 1 (v:= .bool pr) rfl;have d2:=fun pX=>Blk.cell (blk_ext (HB3.out.nth 1 rfl) pX) 2 (v:= .int .i64 (ex:Int)) rfl;have d3:=fun pX=>Blk.cell (blk_ext (HB3.out.nth 1 rfl) pX) 3 (v:= .int .i64 ve) rfl;have d4:=fun pX=>Blk.cell (blk_ext (HB3.out.nth 1 rfl) pX) 4 (v:= .bool no) rfl;have d5:=fun pX=>Blk.cell (blk_ext (HB3.out.nth 1 rfl) pX) 5 (v:= .int .i64 nu) rfl;have d6:=fun pX=>Blk.cell (blk_ext (HB3.out.nth 1 rfl) pX) 6 (v:= .int .i64 la) rfl;have d7:=fun pX=>Blk.cell (blk_ext (HB3.out.nth 1 rfl) pX) 7 (v:= .string bo) rfl;refine Go.Proofs.YtibjkhepedfpiaaGreatDoor.Rg.region_new [(12,newB 193 zc V3.heap.size)] 13 (by kernel_rfl) (by kernel_rfl) (by kernel_rfl) (lk_cons newB_inh lk_nil) (lk_cons newB_mono lk_nil) ?_;intro σ hσ;simp only[List.take_succ_cons,List.take_zero,List.drop_succ_cons,List.drop_zero];refine Go.Proofs.YtibjkhepedfpiaaGreatDoor.Rg.wpN_take 12 (by kernel_rfl) (by kernel_rfl) (by kernel_rfl) ?_;simp only[List.take_succ_cons,List.take_zero,List.drop_succ_cons,List.drop_zero]
 repeat (go_big_quiet_step (fail))
 refine wpQuiet_nil ?_;refine wpN_sp _ rfl (by kernel_rfl) (spAt_newB 193 zc (Nat.le_refl _) (fun _=>rfl)) ?_;simp only[Act.put,List.setIfInBounds_toArray,List.set_cons_zero,List.set_cons_succ];refine wpN_nil ?_;rintro w9 ⟨pq,rfl⟩ hp;obtain⟨gx,hgx,hgl,hgb⟩:=hp 12 _ rfl;rw[hgx];refine wpList_store_blk (cs':= #[.int .i64 ((ex:Int)/256),.int .i64 nu,.int .i64 la,.int .i64 de,.bool tb,.bool fr,.int .i64 at',.string (bo.extract 4 bo.size)]) rfl 193 _ _ rfl rfl rfl hgb (by kernel_rfl) (by kernel_rfl) (by kernel_rfl) (by kernel_rfl) ?_;intro V hV hgr hsz;have HB4:=HB3.out.px pq;have hgl':V3.heap.size≤gx:=hgl
 have HV:=Lib.hid (show Bk w V [(gx,193,#[.int .i64 ((ex:Int)/256),.int .i64 nu,.int .i64 la,.int .i64 de,.bool tb,.bool fr,.int .i64 at',.string (bo.extract 4 bo.size)]),(w.heap.size,193,zc)]from⟨HB4.be.trans (below_of_only hgr HB4.size (fun k hk=>by injection hk with hk;have:=HB3.out.size;omega)),fun x hx=>by
  rcases List.mem_cons.1 hx with rfl|hx
  ·exact hV
  ·rcases List.mem_cons.1 hx with rfl|hx
   ·exact Blk.grown (HB4.nth 2 rfl) hgr (by have:=HB3.out.lt 2 rfl;simp at this ⊢;omega)
   ·cases hx⟩)
 have HT4:=Lib.hid (HT.out.be HV.out.be);clear hV hgr hsz HB4 hgb hp hσ hgx hgl hgl' HB3 y0 y1 y2 y3 d0 d1 d2 d3 d4 d5 d6 d7 HT;have d0:=Blk.cell (HV.out.nth 0 rfl) 0 (v:= .int .i64 ((ex:Int)/256)) rfl;have d1:=Blk.cell (HV.out.nth 0 rfl) 1 (v:= .int .i64 nu) rfl;have d2:=Blk.cell (HV.out.nth 0 rfl) 2 (v:= .int .i64 la) rfl;have d3:=Blk.cell (HV.out.nth 0 rfl) 3 (v:= .int .i64 de) rfl;have d4:=Blk.cell (HV.out.nth 0 rfl) 4 (v:= .bool tb) rfl;have d5:=Blk.cell (HV.out.nth 0 rfl) 5 (v:= .bool fr) rfl;have d6:=Blk.cell (HV.out.nth 0 rfl) 6 (v:= .int .i64 at') rfl;have d7:=Blk.cell (HV.out.nth 0 rfl) 7 (v:= .string (bo.extract 4 bo.size)) rfl;have k9:=kc _ HT4.out;clear kc
 go_wp2_with fail
 (with_reducible refine(k9).mono ?_);rintro e1 W5 ⟨rfl,hb5⟩
 have HB5:=Lib.hid (HV.out.below hb5);have HBE:=Lib.hid HB5.out.be;clear k9 hb5 HV d0 d1 d2 d3 d4 d5 d6 d7;by_cases hc:c=0
 ·subst hc
  have HE:=Lib.hid (HP.out.trans (if_pos rfl));have d0:=Blk.cell (HB5.out.nth 0 rfl) 0 (v:= .int .i64 ((ex:Int)/256)) rfl;have d1:=Blk.cell (HB5.out.nth 0 rfl) 1 (v:= .int .i64 nu) rfl;have d2:=Blk.cell (HB5.out.nth 0 rfl) 2 (v:= .int .i64 la) rfl;have d3:=Blk.cell (HB5.out.nth 0 rfl) 3 (v:= .int .i64 de) rfl;have d4:=Blk.cell (HB5.out.nth 0 rfl) 4 (v:= .bool tb) rfl;have d5:=Blk.cell (HB5.out.nth 0 rfl) 5 (v:= .bool fr) rfl;have d6:=Blk.cell (HB5.out.nth 0 rfl) 6 (v:= .int .i64 at') rfl;have d7:=Blk.cell (HB5.out.nth 0 rfl) 7 (v:= .string (bo.extract 4 bo.size)) rfl
  go_wp2_with (refine wpList_store_blk (g:=w.heap.size) (T:=193) (cs':= #[.int .i64 ((ex:Int)/256),.int .i64 nu,.int .i64 la,.int .i64 de,.bool tb,.bool fr,.int .i64 at',.string (bo.extract 4 bo.size)]) rfl 193 _ _ rfl rfl rfl (HB5.out.nth 1 rfl) (by kernel_rfl) (by kernel_rfl) (by kernel_rfl) (by kernel_rfl) ?_;intro W9 hW9 hg9 hz9)
  have hVE:=HBE.out.trans (below_of_only hg9 HBE.out.size (fun k hk=>by injection hk with hk;omega));exact bodyPost_ret (v:= .tuple #[.agg #[.int .i64 ((ex:Int)/256),.int .i64 nu,.int .i64 la,.int .i64 de,.bool tb,.bool fr,.int .i64 at',.string (bo.extract 4 bo.size)],.int .i64 0]) (by refine res_row (fn:=Tryz.f157) (p:=2) (q:=3) rfl _ _ w.heap.size 193 _ (0,0) _ ?_ hW9 Tryz.underlying193 rfl (by kernel_rfl);rfl) rfl ⟨by rw[HE.out,HC.out];rfl,hVE⟩
 ·have HE:=Lib.hid (And.intro HC.out (HP.out.trans (if_neg hc)))
  have t9:(c !=0)=true:=by simpa using hc
  clear hc
  go_wp2_with (refine wpList_store_blk (g:=w.heap.size) (T:=193) (cs':=zc) rfl 193 _ _ rfl rfl rfl (HB5.out.nth 1 rfl) (by kernel_rfl) (by kernel_rfl) (by kernel_rfl) (by kernel_rfl) ?_;intro W9 hW9 hg9 hz9)
  have hVE:=HBE.out.trans (below_of_only hg9 HBE.out.size (fun k hk=>by injection hk with hk;omega));exact bodyPost_ret (v:= .tuple #[.agg zc,.int .i64 c]) (by refine res_row (fn:=Tryz.f157) (p:=2) (q:=3) rfl _ _ w.heap.size 193 _ (0,0) _ ?_ hW9 Tryz.underlying193 rfl (by kernel_rfl);rfl) rfl ⟨by first|(rw[HE.out.1,HE.out.2];rfl),hVE⟩
theorem fdec_any (t:ByteArray) (w:World) (hT:Tab 2 w) (hs:t.size≤1099511627776):Calls Tryz.prog 157 #[.string t] w fun e w'=>e= .returned (.tuple #[.agg (fdP t).vals,.int .i64 (fdE t)])∧Below w.heap.size w w':=by
 by_cases h:decE t=0
 ·by_cases h1:(decS t).table=120
  ·by_cases h2:frm (decS t)
   ·by_cases h3:(decS t).body.size<4
    ·exact fd_short t w hs h h1 h2 h3
    ·exact fd_go t w hT hs h h1 h2 h3
   ·exact fd_form t w hs h h1 h2
  ·exact fd_kind t w hs h h1
 ·exact fd_bad t w hs h
end Go.Proofs.YtibjkhepedfpiaaGreatDoor.FcC
namespace Go.Proofs.YtibjkhepedfpiaaGreatDoor.FcD
open Go Go.RowKit Q Mem Rg Ap St BiP SeA SeC SeE SeEq SeI SeK SeP TmA TmB Tab FcA FcB FcC
def atP (p:Fp) (x:Ti):Fp:=⟨p.pad,p.number,p.last,x,p.text⟩
def fwE (t:ByteArray) (x:Ti):Int:=if fdE t=0 then(atP (fdP t) x).chk else fdE t
def fwS (t:ByteArray) (x:Ti):ByteArray:=if fdE t=0 then(atP (fdP t) x).enc else nob
set_option maxRecDepth 100000
theorem fwith_any (t:ByteArray) (x:Ti) (w:World) (hT:Tab 2 w) (hs:t.size≤1099511627776):Calls Tryz.prog 133 #[.string t,.agg x.vals] w fun e w'=>e= .returned (.tuple #[.string (fwS t x),.int .i64 (fwE t x)])∧Below w.heap.size w w':=by
 have kd:=fun V (h:Tab 2 V)=>fdec_any t V h hs;have ke:=fun V (h:Tab 2 V)=>fenc_any (atP (fdP t) x) V h;have HB:=Lib.hid (bk1 w 46 x.vals);have HT:=Lib.hid (hT.be HB.out.be);unfold Ti.vals at*;by_cases h:fdE t=0
 ·rw[show fwE t x=(atP (fdP t) x).chk from if_pos h,show fwS t x=(atP (fdP t) x).enc from if_pos h]
  rw[h]at kd;obtain⟨E,hE⟩: ∃E,(atP (fdP t) x).chk=E:=⟨_,rfl⟩;obtain⟨S,hS⟩: ∃S,(atP (fdP t) x).enc=S:=⟨_,rfl⟩;rw[hE,hS]at ke ⊢;unfold Fp.vals atP at ke;unfold Fp.vals at kd;dsimp only at ke;clear hE hS h;obtain⟨Q,hQ⟩: ∃Q,fdP t=Q:=⟨_,rfl⟩;rw[hQ]at kd ke;clear hQ;obtain⟨pa,nu,la,ti,te⟩:=Q;obtain⟨od,ot,of',oa⟩:=ti;obtain⟨d,ta,fr,a⟩:=x;dsimp only at*;have HT0:=Lib.hid hT;clear hT
  go_enter Tryz.func133,Tryz.ntmps133
  go_wp2_with fail
  (with_reducible refine(kd _ HT.out).mono ?_);rintro e1 W1 ⟨rfl,hb1⟩
  have HT1:=Lib.hid (HT.out.be hb1);have HB1:=Lib.hid ((HB.out.below hb1).new 193 #[.int .i64 pa,.int .i64 nu,.int .i64 la,.int .i64 od,.bool ot,.bool of',.int .i64 oa,.string te]);have HT2:=Lib.hid (HT1.out.be ((Below.refl _ _).alloc (Nat.le_refl _) (.cells #[.int .i64 pa,.int .i64 nu,.int .i64 la,.int .i64 od,.bool ot,.bool of',.int .i64 oa,.string te] 193)));have hgw:w.heap.size<W1.heap.size:=(HB.out.below hb1).lt 0 rfl;clear kd hb1 HT1 HB;have d0:=Blk.cell (HB1.out.nth 1 rfl) 0 (v:= .int .i64 d) rfl;have d1:=Blk.cell (HB1.out.nth 1 rfl) 1 (v:= .bool ta) rfl;have d2:=Blk.cell (HB1.out.nth 1 rfl) 2 (v:= .bool fr) rfl;have d3:=Blk.cell (HB1.out.nth 1 rfl) 3 (v:= .int .i64 a) rfl
  go_wp2_with (refine wpList_store_blk (g:=W1.heap.size) (T:=193) (cs':= #[.int .i64 pa,.int .i64 nu,.int .i64 la,.int .i64 d,.bool ta,.bool fr,.int .i64 a,.string te]) rfl 46 _ _ rfl rfl rfl (HB1.out.nth 0 rfl) (by kernel_rfl) (by kernel_rfl) (by kernel_rfl) (by kernel_rfl) ?_;clear d0 d1 d2 d3;intro V hV hgr hsz;have d0:=Blk.cell hV 0 (v:= .int .i64 pa) rfl;have d1:=Blk.cell hV 1 (v:= .int .i64 nu) rfl;have d2:=Blk.cell hV 2 (v:= .int .i64 la) rfl;have d3:=Blk.cell hV 3 (v:= .int .i64 d) rfl;have d4:=Blk.cell hV 4 (v:= .bool ta) rfl;have d5:=Blk.cell hV 5 (v:= .bool fr) rfl;have d6:=Blk.cell hV 6 (v:= .int .i64 a) rfl;have d7:=Blk.cell hV 7 (v:= .string te) rfl)
  have HV:=Lib.hid (show Bk w V [(W1.heap.size,193,#[.int .i64 pa,.int .i64 nu,.int .i64 la,.int .i64 d,.bool ta,.bool fr,.int .i64 a,.string te])]from⟨HB1.out.be.trans (below_of_only hgr HB1.out.size (fun k hk=>by injection hk with hk;omega)),fun x hx=>by
   rcases List.mem_cons.1 hx with rfl|hx
   ·exact hV
   ·cases hx⟩)
  have HT3:=Lib.hid (HT0.out.be HV.out.be);clear hV hgr hsz HB1
  (with_reducible refine(ke _ HT3.out).mono ?_);rintro e1 W2 ⟨rfl,hb2⟩
  have hE:=(HV.out.below hb2).be
  go_wp2_with fail
  go_ret2
  exact⟨rfl,hE⟩
 ·rw[show fwE t x=fdE t from if_neg h,show fwS t x=nob from if_neg h]
  obtain⟨c,hc⟩: ∃c,fdE t=c:=⟨_,rfl⟩;rw[hc]at kd h ⊢;obtain⟨Q,hQ⟩: ∃Q,fdP t=Q:=⟨_,rfl⟩;rw[hQ]at kd;have t1:(c !=0)=true:=by simpa using h
  unfold Fp.vals at kd;clear hc h hQ ke hT
  go_enter Tryz.func133,Tryz.ntmps133
  go_wp2_with fail
  (with_reducible refine(kd _ HT.out).mono ?_);rintro e1 W1 ⟨rfl,hb1⟩
  have hE:=((HB.out.below hb1).new 193 Q.vals).be;unfold Fp.vals at hE
  go_wp2_with fail
  go_ret2
  exact⟨rfl,hE⟩
theorem is_any (t:ByteArray) (w:World):Calls Tryz.prog 131 #[.string t] w fun e w'=>e= .returned (.bool (decide (0<t.size∧at' t 0=120)))∧w=w':=by
 by_cases h:t.size=0
 ·have ht:t=nob:=by
   apply bl_inj;rw[show bl nob=[]from rfl];exact List.eq_nil_of_length_eq_zero (by rw[bl_len];exact h)
  subst ht
  go_enter Tryz.func131,Tryz.ntmps131
  go_wp2_with fail
  go_ret;exact⟨rfl,rfl⟩
 ·have hi:=fun V=>idx_at t 0 (by omega) V
  have hn:(t.toList !=(nob:ByteArray).toList)=true:=by
   rw[bne,bytes_eq];have:t≠nob:=by rintro rfl;exact h rfl
   simp[this]
  have hn2:t.toList.isEmpty=false:=by rw[isEmpty_iff];simpa using h
  have HE:=Lib.hid (show(at' t 0==120)=decide (0<t.size∧at' t 0=120) by
   show decide (at' t 0=120)=_;rw[decide_eq_decide];exact⟨fun h'=>⟨by omega,h'⟩,fun h'=>h'.2⟩)
  rw[show(((0:Nat)):Int)=0 from rfl]at hi;clear h
  go_enter Tryz.func131,Tryz.ntmps131
  go_wp2_with fail
  go_ret;exact⟨by rw[←HE.out];rfl,rfl⟩
end Go.Proofs.YtibjkhepedfpiaaGreatDoor.FcD
namespace Go.Proofs.YtibjkhepedfpiaaGreatDoor.FcP
open Go Go.RowKit Q Mem Rg Ap St BiP CrP CrC SeA SeC SeE SeEq SeI SeP TmA TmB Tab FcA FcB FcC FcD
theorem fp_iff {a b:Fp}:a=b↔a.pad=b.pad∧a.number=b.number∧a.last=b.last∧a.times.delta=b.times.delta∧a.times.table=b.times.table∧a.times.frame=b.times.frame∧a.times.at_=b.times.at_∧a.text=b.text:=
 ⟨fun h=>by subst h;simp,fun⟨h1,h2,h3,h4,h5,h6,h7,h8⟩=>by
  obtain⟨_,_,_,⟨_,_,_,_⟩,_⟩:=a;obtain⟨_,_,_,⟨_,_,_,_⟩,_⟩:=b
  simp_all⟩
instance:DecidableEq Fp:=fun _ _=>decidable_of_iff _ fp_iff.symm
theorem encT_ok {t:Ti} (h:t.ok):encT t=str (tmL t):=by unfold encT;rw[if_pos (tchk_ok h)]
theorem sec_body {p:Fp} (h:p.times.ok):bl p.sec.body=tmL p.times++bl p.text:=by
 show bl (encT p.times++p.text)=_;rw[encT_ok h,bl_app,bl_str]
theorem sec_size {p:Fp} (h:p.times.ok):p.sec.body.size=4+p.text.size:=by rw[←bl_len,sec_body h,List.length_append,tm_len,bl_len]
theorem fpOf_sec {p:Fp} (h:p.chk=0):fpOf p.sec=p:=by
 obtain⟨⟨⟨a1,a2⟩,⟨b1,b2⟩,c1,c2⟩,h2,h3⟩:=fchk_zero h;have e1:p.sec.body.extract 0 4=str (tmL p.times):=bl_inj (by rw[ext_bl,bl_str,sec_body h2,List.drop_zero,List.take_append_of_le_length (by rw[tm_len];omega),List.take_of_length_le (by rw[tm_len];omega)]);have e2:p.sec.body.extract 4 p.sec.body.size=p.text:=bl_inj (by rw[ext_bl,sec_body h2,sec_size h2,List.drop_append_of_le_length (by rw[tm_len];omega),List.drop_of_length_le (by rw[tm_len];omega),List.nil_append,List.take_of_length_le (by rw[bl_len];omega)]);unfold fpOf;rw[e1,e2,tmD_tmL _ h2];obtain⟨pa,nu,la,ti,te⟩:=p;show Fp.mk ((pa*256+255)/256) nu la ti te=_
 congr 1
 dsimp only at a1 a2;omega
theorem fd_enc {p:Fp} (h:p.chk=0):fdE p.enc=0∧fdP p.enc=p:=by
 have he:p.enc=bytesS p.sec:=by unfold Fp.enc;rw[if_pos h]
 obtain⟨h1,h2,_,_⟩:=enc_dec (sec_ok h);obtain⟨⟨⟨a1,a2⟩,_⟩,ht,hsz⟩:=fchk_zero h
 have h3:fdE p.enc=0:=by
  unfold fdE;rw[he,if_neg (by simpa using h1),h2];unfold secE;rw[if_neg (by simp[Fp.sec]),if_neg (Classical.not_not.2 ⟨rfl,rfl,rfl,by show(p.pad*256+255)%256=255;omega⟩),if_neg (by rw[sec_size ht];omega),fpOf_sec h,h]
 refine⟨h3,?_⟩;unfold fdP;rw[if_pos h3,he,h2,fpOf_sec h]
theorem fd_parts {t:ByteArray} (h:fdE t=0):decE t=0∧(decS t).table=120∧frm (decS t)∧ ¬(decS t).body.size<4∧(fpOf (decS t)).chk=0∧fdP t=fpOf (decS t):=by
 have hp:fdP t=fpOf (decS t):=by unfold fdP;rw[if_pos h]
 unfold fdE at h;by_cases h1:decE t=0
 ·rw[if_neg (by simpa using h1)]at h
  unfold secE at h;by_cases h2:(decS t).table=120
  ·rw[if_neg (by simpa using h2)]at h
   by_cases h3:frm (decS t)
   ·rw[if_neg (by simpa using h3)]at h
    by_cases h4:(decS t).body.size<4
    ·rw[if_pos h4]at h;omega
    ·rw[if_neg h4]at h
     exact⟨h1,h2,h3,h4,h,hp⟩
   ·rw[if_pos h3]at h;omega
  ·rw[if_pos h2]at h;omega
 ·rw[if_pos h1]at h;exact absurd h h1
theorem enc_fd {t:ByteArray} (h:fdE t=0):(fdP t).chk=0∧(fdP t).enc=t:=by
 obtain⟨h1,h2,h3,h4,h5,h6⟩:=fd_parts h;obtain⟨c1,c2⟩:=dec_enc h1;obtain⟨⟨_,⟨b1,b2⟩,_⟩,_⟩:=chk_zero c1;rw[h6];refine⟨h5,?_⟩
 have hs:(fpOf (decS t)).sec=decS t:=by
  rw[sc_iff];obtain⟨g1,g2,g3,g4⟩:=h3;refine⟨h2.symm,g1.symm,?_,g2.symm,g3.symm,rfl,rfl,?_⟩
  ·show(decS t).ext/256*256+255=(decS t).ext
   omega
  ·apply bl_inj
   show bl (encT (tmD ((decS t).body.extract 0 4))++(decS t).body.extract 4 (decS t).body.size)=_;rw[encT_ok (tmD_ok _),bl_app,bl_str,tmL_tmD _ (by rw[ByteArray.size_extract];omega),ext_bl,ext_bl,List.drop_zero,Nat.sub_zero]
   conv=>rhs;rw[←List.take_append_drop 4 (bl (decS t).body)]
   congr 1
   exact List.take_of_length_le (by rw[List.length_drop,bl_len];omega)
 unfold Fp.enc;rw[if_pos h5,hs,c2]
theorem enc_size {p:Fp} (h:p.chk=0):p.enc.size=p.text.size+16:=by
 unfold Fp.enc;rw[if_pos h,bytes_size,sec_size (fchk_zero h).2.1];omega
theorem enc_bl {p:Fp} (h:p.chk=0): ∃c,bl p.enc=frontL p.sec++(tmL p.times++(bl p.text++c))∧c.length=4:=by
 refine⟨four (sumL (frontL p.sec++bl p.sec.body)),?_,rfl⟩;unfold Fp.enc;rw[if_pos h,bytes_bl];unfold sealL;rw[sec_body (fchk_zero h).2.1];simp[List.append_assoc]
set_option maxRecDepth 100000
end Go.Proofs.YtibjkhepedfpiaaGreatDoor.FcP
namespace Go.Proofs.YtibjkhepedfpiaaGreatDoor.FcR
open Go Go.RowKit Q Mem Rg Ap St Ints BiP CrC CrD SeA SeC SeE SeEq SeI SeK SeP TmA TmB Tab FcA FcB FcC
set_option maxRecDepth 100000
end Go.Proofs.YtibjkhepedfpiaaGreatDoor.FcR
namespace Go.Proofs.YtibjkhepedfpiaaGreatDoor.FcS
open Go Go.RowKit Q Mem Rg Ap St Ints BiP CrC CrD SeA SeC SeE SeEq SeI SeK SeP TmA TmB Tab FcA FcB FcC FcR
set_option maxRecDepth 100000
end Go.Proofs.YtibjkhepedfpiaaGreatDoor.FcS
namespace Go.Proofs.YtibjkhepedfpiaaGreatDoor.FcT
open Go Go.RowKit Q Mem Rg Ap St BiP BiH SeA SeC SeE SeEq SeG SeI SeI2 SeP TmA TmB FcA FcB FcC FcR
set_option maxRecDepth 100000
end Go.Proofs.YtibjkhepedfpiaaGreatDoor.FcT
