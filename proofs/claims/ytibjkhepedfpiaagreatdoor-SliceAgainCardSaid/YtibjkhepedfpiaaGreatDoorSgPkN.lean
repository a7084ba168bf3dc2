import Derived.Test.YtibjkhepedfpiaaGreatDoorSgPkD
import Derived.Test.YtibjkhepedfpiaaGreatDoorSgPkT
namespace Go.Proofs.YtibjkhepedfpiaaGreatDoor.MpA
open Go Go.RowKit Q Mem Rg Ap St BiP SeA SeC SeE SeP TmA TmB DgB DgC
structure Mp where
 mac:Int
 times:Ti
 text:ByteArray
def Mp.vals (p:Mp):Array Value:= #[.int .i64 p.mac,.int .i64 p.times.delta,.bool p.times.table,.bool p.times.frame,.int .i64 p.times.at_,.string p.text]
def Mp.ok (p:Mp):Prop:=0≤p.mac∧p.mac≤65535
instance (p:Mp):Decidable p.ok:=by unfold Mp.ok;infer_instance
def Mp.chk (p:Mp):Int:=if p.ok∧p.times.ok then dgE p.text else 15
def Mp.sec (p:Mp):Sc:=⟨62,false,p.mac,0,true,0,0,encT p.times++p.text⟩
def Mp.enc (p:Mp):ByteArray:=if p.chk=0 then bytesS p.sec else nob
theorem dg_size {s:ByteArray} (h:dgE s=0):s.size≤4080:=by
 unfold dgE at h;by_cases h1:pkE s=0
 ·have h2:=(pk_ok h1).2.2.2
  rw[if_neg (by simpa using h1)]at h
  split at h
  ·omega
  ·split at h
   ·omega
   ·omega
 ·rw[if_pos h1]at h;exact absurd h h1
theorem mchk_zero {p:Mp} (h:p.chk=0):p.ok∧p.times.ok∧dgE p.text=0:=by
 unfold Mp.chk at h
 split at h
 ·rename_i hk
  exact⟨hk.1,hk.2,h⟩
 ·omega
theorem sec_ok {p:Mp} (h:p.chk=0):p.sec.chk=0:=by
 obtain⟨⟨a1,a2⟩,h2,h3⟩:=mchk_zero h;refine chk_ok ?_ ?_
 ·unfold Sc.ok Mp.sec;dsimp only;omega
 ·have h4:(encT p.times).size=4:=by unfold encT;rw[if_pos (tchk_ok h2),str_size,tm_len]
  have h5:=dg_size h3;show ¬4084<(encT p.times++p.text).size;rw[ByteArray.size_append,h4];omega
set_option maxRecDepth 100000
set_option maxHeartbeats 800000 in
theorem mcheck_any (p:Mp) (w:World) (hs:p.text.size≤1099511627776):Calls Tryz.prog 121 #[.agg p.vals] w fun e w'=>e= .returned (.int .i64 p.chk)∧Below w.heap.size w w':=by
 have kt:=fun V=>tcheck_any p.times V;have kd:=fun V=>check_any p.text V hs;have hc0: ¬p.ok→p.chk=15:=fun h=>by unfold Mp.chk;rw[if_neg (fun h'=>h h'.1)]
 have hc1: ¬p.times.ok→p.chk=15:=fun h=>by unfold Mp.chk;rw[if_neg (fun h'=>h h'.2)]
 have hc2:p.ok→p.times.ok→p.chk=dgE p.text:=fun h h'=>by unfold Mp.chk;rw[if_pos ⟨h,h'⟩]
 have htc:p.times.chk=if p.times.ok then 0 else 15:=rfl;obtain⟨c,hc⟩: ∃c,p.chk=c:=⟨_,rfl⟩;rw[hc]at hc0 hc1 hc2 ⊢;unfold Mp.ok at hc0 hc2;have HB:=bk1 w 189 p.vals;unfold Mp.vals at HB ⊢;obtain⟨ma,ti,te⟩:=p;obtain⟨d,ta,fr,a⟩:=ti;unfold Ti.vals at kt;dsimp only at*;obtain⟨D,hD⟩: ∃D,dgE te=D:=⟨_,rfl⟩;rw[hD]at kd hc2;have HB:=Lib.hid HB;clear hD;by_cases t1:ma<0
 ·have r1:decide (ma<0)=true:=by simpa using t1
  have HC:=Lib.hid (hc0 (by omega));clear hc0 hc1 hc2 htc hc kt kd t1;have hE:=HB.out.be
  go_enter Tryz.func121,Tryz.ntmps121
  go_wp2_with fail
  go_ret;exact⟨by rw[HC.out];rfl,hE⟩
 ·have r1:decide (ma<0)=false:=by simpa using t1
  by_cases t2:65535<ma
  ·have r2:decide (65535<ma)=true:=by simpa using t2
   have HC:=Lib.hid (hc0 (by omega));clear hc0 hc1 hc2 htc hc kt kd t1 t2;have hE:=HB.out.be
   go_enter Tryz.func121,Tryz.ntmps121
   go_wp2_with fail
   go_ret;exact⟨by rw[HC.out];rfl,hE⟩
  ·have r2:decide (65535<ma)=false:=by simpa using t2
   by_cases htk:Ti.ok ⟨d,ta,fr,a⟩
   ·rw[htc,if_pos htk]at kt
    have HC:=Lib.hid (hc2 (by omega) htk);clear hc0 hc1 hc2 htc hc htk t1 t2
    go_enter Tryz.func121,Tryz.ntmps121
    go_wp2_with fail
    (with_reducible refine(kt _).mono ?_);rintro e1 W1 ⟨rfl,hb1⟩
    have HB1:=Lib.hid (HB.out.below hb1);clear HB hb1 kt;have c5:=Blk.cell (HB1.out.nth 0 rfl) 5 (v:= .string te) rfl
    go_wp2_with fail
    (with_reducible refine(kd _).mono ?_);rintro e1 W2 ⟨rfl,hb2⟩
    have hE:=(HB1.out.below hb2).be
    go_wp2_with fail
    go_ret;exact⟨by rw[HC.out];rfl,hE⟩
   ·rw[htc,if_neg htk]at kt
    have HC:=Lib.hid (hc1 htk);clear hc0 hc1 hc2 htc hc htk t1 t2 kd
    go_enter Tryz.func121,Tryz.ntmps121
    go_wp2_with fail
    (with_reducible refine(kt _).mono ?_);rintro e1 W1 ⟨rfl,hb1⟩
    have hE:=(HB.out.below hb1).be
    go_wp2_with fail
    go_ret;exact⟨by rw[HC.out];rfl,hE⟩
theorem framed_any (n:Int) (b:ByteArray) (w:World):Calls Tryz.prog 124 #[.int .i64 n,.string b] w fun e w'=>e= .returned (.agg (Sc.vals ⟨62,false,n,0,true,0,0,b⟩))∧Below w.heap.size w w':=by
 have hB:=Lib.hid (bk1 w 235 #[.int .i64 0,.bool false,.int .i64 0,.int .i64 0,.bool false,.int .i64 0,.int .i64 0,.string nob]);unfold Sc.vals;dsimp only
 go_enter Tryz.func124,Tryz.ntmps124
 go_wp2_with (refine wpList_store_blk (g:=w.heap.size) (T:=235) (cs':= #[.int .i64 62,.bool false,.int .i64 n,.int .i64 0,.bool true,.int .i64 0,.int .i64 0,.string b]) rfl 235 _ _ rfl rfl rfl (hB.out.nth 0 rfl) (by kernel_rfl) (by kernel_rfl) (by kernel_rfl) (by kernel_rfl) ?_;intro W9 hW9 hg9 hz9)
 have hVE:=hB.out.be.trans (below_of_only hg9 hB.out.be.size (fun k hk=>by injection hk with hk;omega));exact bodyPost_ret (v:= .agg #[.int .i64 62,.bool false,.int .i64 n,.int .i64 0,.bool true,.int .i64 0,.int .i64 0,.string b]) (results_cell_row rfl _ _ w.heap.size 235 _ (0,0) _ rfl hW9 Tryz.underlying235 rfl (by kernel_rfl)) rfl ⟨by rfl,hVE⟩
set_option maxHeartbeats 800000 in
theorem menc_any (p:Mp) (w:World) (hts:p.text.size≤1099511627776):Calls Tryz.prog 90 #[.agg p.vals] w fun e w'=>e= .returned (.tuple #[.string p.enc,.int .i64 p.chk])∧Below w.heap.size w w':=by
 have kc:=fun V=>mcheck_any p V hts;have kt:=fun V=>enct_any p.times V;have HB:=Lib.hid (bk1 w 189 p.vals);by_cases h:p.chk=0
 ·have hs:=sec_ok h
  have ks:=fun V=>enc_any p.sec V;have hE:p.enc=bytesS p.sec:=by unfold Mp.enc;rw[if_pos h]
  have hE2:encS p.sec=bytesS p.sec:=by unfold encS;rw[if_pos hs]
  rw[hE2,hs]at ks;rw[hE,h];rw[h]at kc;obtain⟨⟨a1,a2⟩,h2,h3⟩:=mchk_zero h;rw[tchk_ok h2]at kt;obtain⟨S,hS⟩: ∃S,bytesS p.sec=S:=⟨_,rfl⟩;rw[hS]at ks ⊢;unfold Mp.sec at ks;have h4:(encT p.times).size=4:=by unfold encT;rw[if_pos (tchk_ok h2),str_size,tm_len]
  have h5:=dg_size h3;obtain⟨T,hTe⟩: ∃T,encT p.times=T:=⟨_,rfl⟩;rw[hTe]at kt ks h4;unfold Mp.vals at kc HB ⊢;obtain⟨ma,ti,te⟩:=p;obtain⟨d,ta,fr,a⟩:=ti;unfold Ti.vals at kt;dsimp only at*;have ha:=fun V=>add_at T te (by omega) V;have kf:=fun V=>framed_any ma (T++te) V;obtain⟨X,hX⟩: ∃X,T++te=X:=⟨_,rfl⟩;rw[hX]at kf ks ha;unfold Sc.vals at ks kf;dsimp only at ks kf;clear h hs hE hE2 hS hTe hX h2 h3 h4 h5 a1 a2 hts;have c0:=Blk.cell (HB.out.nth 0 rfl) 0 (v:= .int .i64 ma) rfl;have c1:=Blk.cell (HB.out.nth 0 rfl) 1 (v:= .int .i64 d) rfl;have c2:=Blk.cell (HB.out.nth 0 rfl) 2 (v:= .bool ta) rfl;have c3:=Blk.cell (HB.out.nth 0 rfl) 3 (v:= .bool fr) rfl;have c4:=Blk.cell (HB.out.nth 0 rfl) 4 (v:= .int .i64 a) rfl;have c5:=Blk.cell (HB.out.nth 0 rfl) 5 (v:= .string te) rfl
  go_enter Tryz.func90,Tryz.ntmps90
  go_wp2_with fail
  (with_reducible refine(kc _).mono ?_);rintro e1 W1 ⟨rfl,hb1⟩
  have HB1:=Lib.hid (HB.out.below hb1);clear kc c0 c1 c2 c3 c4 c5 HB hb1;have c0:=Blk.cell (HB1.out.nth 0 rfl) 0 (v:= .int .i64 ma) rfl;have c1:=Blk.cell (HB1.out.nth 0 rfl) 1 (v:= .int .i64 d) rfl;have c2:=Blk.cell (HB1.out.nth 0 rfl) 2 (v:= .bool ta) rfl;have c3:=Blk.cell (HB1.out.nth 0 rfl) 3 (v:= .bool fr) rfl;have c4:=Blk.cell (HB1.out.nth 0 rfl) 4 (v:= .int .i64 a) rfl;have c5:=Blk.cell (HB1.out.nth 0 rfl) 5 (v:= .string te) rfl
  go_wp2_with fail
  (with_reducible refine(kt _).mono ?_);rintro e1 W2 ⟨rfl,hb2⟩
  have HB2:=Lib.hid (HB1.out.below hb2);clear kt c0 c1 c2 c3 c4 c5 HB1 hb2;have c0:=Blk.cell (HB2.out.nth 0 rfl) 0 (v:= .int .i64 ma) rfl;have c1:=Blk.cell (HB2.out.nth 0 rfl) 1 (v:= .int .i64 d) rfl;have c2:=Blk.cell (HB2.out.nth 0 rfl) 2 (v:= .bool ta) rfl;have c3:=Blk.cell (HB2.out.nth 0 rfl) 3 (v:= .bool fr) rfl;have c4:=Blk.cell (HB2.out.nth 0 rfl) 4 (v:= .int .i64 a) rfl;have c5:=Blk.cell (HB2.out.nth 0 rfl) 5 (v:= .string te) rfl
  go_wp2_with fail
  (with_reducible refine(kf _).mono ?_);rintro e1 W3 ⟨rfl,hb3⟩
  have HB3:=Lib.hid (HB2.out.below hb3)
  go_wp2_with fail
  (with_reducible refine(ks _).mono ?_);rintro e1 W4 ⟨rfl,hb4⟩
  have hE:=(HB3.out.below hb4).be
  go_wp2_with fail
  go_ret2
  exact⟨rfl,hE⟩
 ·have hE:p.enc=nob:=by unfold Mp.enc;rw[if_neg h]
  rw[hE];obtain⟨c,hc⟩: ∃c,p.chk=c:=⟨_,rfl⟩;rw[hc]at h kc ⊢;have t1:(c !=0)=true:=by simpa using h
  unfold Mp.vals at kc HB ⊢;have c0:=Blk.cell (HB.out.nth 0 rfl) 0 (v:= .int .i64 p.mac) rfl;have c1:=Blk.cell (HB.out.nth 0 rfl) 1 (v:= .int .i64 p.times.delta) rfl;have c2:=Blk.cell (HB.out.nth 0 rfl) 2 (v:= .bool p.times.table) rfl;have c3:=Blk.cell (HB.out.nth 0 rfl) 3 (v:= .bool p.times.frame) rfl;have c4:=Blk.cell (HB.out.nth 0 rfl) 4 (v:= .int .i64 p.times.at_) rfl;have c5:=Blk.cell (HB.out.nth 0 rfl) 5 (v:= .string p.text) rfl;clear hE hc kt h hts
  go_enter Tryz.func90,Tryz.ntmps90
  go_wp2_with fail
  (with_reducible refine(kc _).mono ?_);rintro e1 W1 ⟨rfl,hb1⟩
  have hE:=(HB.out.below hb1).be
  go_wp2_with fail
  go_ret2
  exact⟨rfl,hE⟩
end Go.Proofs.YtibjkhepedfpiaaGreatDoor.MpA
namespace Go.Proofs.YtibjkhepedfpiaaGreatDoor.MpC
open Go Go.RowKit Q Mem Rg Ap St BiP SeA SeC SeE SeEq SeI SeK SeP TmA TmB MpA
def zeroP:Mp:=⟨0,zeroT,nob⟩
def mpOf (s:Sc):Mp:=⟨s.ext,tmD (s.body.extract 0 4),s.body.extract 4 s.body.size⟩
def frm (s:Sc):Prop:=s.priv=false∧s.version=0∧s.now=true∧s.number=0∧s.last=0
instance (s:Sc):Decidable (frm s):=by unfold frm;infer_instance
def secE (s:Sc):Int:=if s.table≠62 then 14 else if ¬frm s then 12 else if s.body.size<4 then 10 else(mpOf s).chk
def mdE (t:ByteArray):Int:=if decE t≠0 then decE t else secE (decS t)
def mdP (t:ByteArray):Mp:=if mdE t=0 then mpOf (decS t)else zeroP
theorem md_zero {t:ByteArray} {c:Int} (h:mdE t=c) (hc:c≠0):mdE t=c∧mdP t=zeroP:=⟨h,by unfold mdP;rw[if_neg (by rw[h];exact hc)]⟩
theorem frm_eq (s:Sc) (ht:s.table=62):decide (s=⟨62,false,s.ext,0,true,0,0,s.body⟩)=decide (frm s):=by
 rw[decide_eq_decide,sc_iff];unfold frm;dsimp only;constructor
 ·rintro⟨h1,h2,h3,h4,h5,h6,h7,h8⟩;exact⟨h2,h4,h5,h6,h7⟩
 ·rintro⟨h1,h2,h3,h4,h5⟩;exact⟨ht,h1,rfl,h2,h3,h4,h5,rfl⟩
set_option maxRecDepth 100000
abbrev zc:Array Value:= #[.int .i64 0,.int .i64 0,.bool false,.bool false,.int .i64 0,.string nob]
theorem md_bad (t:ByteArray) (w:World) (hs:t.size≤1099511627776) (h:decE t≠0):Calls Tryz.prog 154 #[.string t] w fun e w'=>e= .returned (.tuple #[.agg (mdP t).vals,.int .i64 (mdE t)])∧Below w.heap.size w w':=by
 have kd:=fun V=>decode_any t V hs;have HB:=Lib.hid (bk1 w 189 zc);have hE:mdE t=decE t:=by unfold mdE;rw[if_pos h]
 obtain⟨c,hc⟩: ∃c,decE t=c:=⟨_,rfl⟩;rw[hc]at kd h hE;have HE:=Lib.hid (md_zero hE h);have t1:(c !=0)=true:=by simpa using h
 obtain⟨s,hse⟩: ∃s,decS t=s:=⟨_,rfl⟩;rw[hse]at kd;unfold Sc.vals at kd;clear hE hc hse h
 go_enter Tryz.func154,Tryz.ntmps154
 go_wp2_with fail
 (with_reducible refine(kd _).mono ?_);rintro e1 W1 ⟨rfl,hb1⟩
 have HB1:=Lib.hid ((HB.out.below hb1).new 235 s.vals);have HBE:=Lib.hid HB1.out.be;unfold Sc.vals at HB1 HBE;clear kd HB hb1
 go_wp2_with (refine wpList_store_blk (g:=w.heap.size) (T:=189) (cs':=zc) rfl 189 _ _ rfl rfl rfl (HB1.out.nth 1 rfl) (by kernel_rfl) (by kernel_rfl) (by kernel_rfl) (by kernel_rfl) ?_;intro W9 hW9 hg9 hz9)
 have hVE:=HBE.out.trans (below_of_only hg9 HBE.out.size (fun k hk=>by injection hk with hk;omega));exact bodyPost_ret (v:= .tuple #[.agg zc,.int .i64 c]) (by refine res_row (fn:=Tryz.f154) (p:=2) (q:=3) rfl _ _ w.heap.size 189 _ (0,0) _ ?_ hW9 Tryz.underlying189 rfl (by kernel_rfl);rfl) rfl ⟨by first|(rw[HE.out.1,HE.out.2];rfl),hVE⟩
theorem md_kind (t:ByteArray) (w:World) (hs:t.size≤1099511627776) (h:decE t=0) (h1:(decS t).table≠62):Calls Tryz.prog 154 #[.string t] w fun e w'=>e= .returned (.tuple #[.agg (mdP t).vals,.int .i64 (mdE t)])∧Below w.heap.size w w':=by
 have kd:=fun V=>decode_any t V hs;have HB:=Lib.hid (bk1 w 189 zc);have HE:=Lib.hid (md_zero (t:=t) (c:=14) (by unfold mdE;rw[if_neg (by simpa using h)];unfold secE;rw[if_pos h1]) (by decide));rw[h]at kd;obtain⟨s,hse⟩: ∃s,decS t=s:=⟨_,rfl⟩;rw[hse]at kd h1;have t1:(s.table !=62)=true:=by simpa using h1
 unfold Sc.vals at kd;clear hse h h1
 go_enter Tryz.func154,Tryz.ntmps154
 go_wp2_with fail
 (with_reducible refine(kd _).mono ?_);rintro e1 W1 ⟨rfl,hb1⟩
 have HB1:=Lib.hid ((HB.out.below hb1).new 235 s.vals);have HBE:=Lib.hid HB1.out.be;unfold Sc.vals at HB1 HBE;clear kd HB hb1
 go_wp2_with (refine wpList_store_blk (g:=w.heap.size) (T:=189) (cs':=zc) rfl 189 _ _ rfl rfl rfl (HB1.out.nth 1 rfl) (by kernel_rfl) (by kernel_rfl) (by kernel_rfl) (by kernel_rfl) ?_;intro W9 hW9 hg9 hz9)
 have hVE:=HBE.out.trans (below_of_only hg9 HBE.out.size (fun k hk=>by injection hk with hk;omega));exact bodyPost_ret (v:= .tuple #[.agg zc,.int .i64 14]) (by refine res_row (fn:=Tryz.f154) (p:=2) (q:=3) rfl _ _ w.heap.size 189 _ (0,0) _ ?_ hW9 Tryz.underlying189 rfl (by kernel_rfl);rfl) rfl ⟨by first|(rw[HE.out.1,HE.out.2];rfl),hVE⟩
set_option maxHeartbeats 800000 in
theorem md_form (t:ByteArray) (w:World) (hs:t.size≤1099511627776) (h:decE t=0) (h1:(decS t).table=62) (h2: ¬frm (decS t)):Calls Tryz.prog 154 #[.string t] w fun e w'=>e= .returned (.tuple #[.agg (mdP t).vals,.int .i64 (mdE t)])∧Below w.heap.size w w':=by
 have kd:=fun V=>decode_any t V hs;have HB:=Lib.hid (bk1 w 189 zc);have HE:=Lib.hid (md_zero (t:=t) (c:=12) (by unfold mdE;rw[if_neg (by simpa using h)];unfold secE;rw[if_neg (by simpa using h1),if_pos h2]) (by decide));have hr:=chk_zero (dec_enc h).1;obtain⟨⟨⟨ra1,ra2⟩,⟨rb1,rb2⟩,⟨rc1,rc2⟩,⟨rd1,rd2⟩,re1,re2⟩,hbs⟩:=hr;rw[h]at kd;obtain⟨s,hse⟩: ∃s,decS t=s:=⟨_,rfl⟩;rw[hse]at kd h1 h2 ra1 ra2 rb1 rb2 rc1 rc2 rd1 rd2 re1 re2 hbs;clear hse h;obtain⟨ta,pr,ex,ve,no,nu,la,bo⟩:=s;unfold Sc.vals at*;dsimp only at*;obtain⟨ex,rfl⟩: ∃n:Nat,ex=(n:Int):=⟨ex.toNat,by omega⟩;have kf:=fun V=>framed_any ex bo V;unfold Sc.vals at kf;dsimp only at kf;have hx:=fun V=>eqTS ⟨62,pr,ex,ve,no,nu,la,bo⟩ ⟨62,false,(ex:Int),0,true,0,0,bo⟩ V;have hfe:=frm_eq ⟨62,pr,ex,ve,no,nu,la,bo⟩ rfl;dsimp only at hfe;rw[hfe]at hx;unfold Sc.vals at hx;dsimp only at hx;rw[h1]at*;rw[decide_eq_false h2]at hx;clear hfe ra1 ra2 rb1 rb2 rc1 rc2 rd1 rd2 re1 re2 hbs h1 h2
 go_enter Tryz.func154,Tryz.ntmps154
 go_wp2_with fail
 (with_reducible refine(kd _).mono ?_);rintro e1 W1 ⟨rfl,hb1⟩
 have HB1:=Lib.hid ((HB.out.below hb1).new 235 #[.int .i64 62,.bool pr,.int .i64 (ex:Int),.int .i64 ve,.bool no,.int .i64 nu,.int .i64 la,.string bo]);clear kd HB hb1
 go_wp2_with fail
 have c0:=fun pX=>Blk.cell (blk_ext (HB1.out.nth 0 rfl) pX) 0 (v:= .int .i64 62) rfl;have c1:=fun pX=>Blk.cell (blk_ext (HB1.out.nth 0 rfl) pX) 1 (v:= .bool pr) rfl;have c2:=fun pX=>Blk.cell (blk_ext (HB1.out.nth 0 rfl) pX) 2 (v:= .int .i64 (ex:Int)) rfl;have c3:=fun pX=>Blk.cell (blk_ext (HB1.out.nth 0 rfl) pX) 3 (v:= .int .i64 ve) rfl;have c4:=fun pX=>Blk.cell (blk_ext (HB1.out.nth 0 rfl) pX) 4 (v:= .bool no) rfl;have c5:=fun pX=>Blk.cell (blk_ext (HB1.out.nth 0 rfl) pX) 5 (v:= .int .i64 nu) rfl;have c6:=fun pX=>Blk.cell (blk_ext (HB1.out.nth 0 rfl) pX) 6 (v:= .int .i64 la) rfl;have c7:=fun pX=>Blk.cell (blk_ext (HB1.out.nth 0 rfl) pX) 7 (v:= .string bo) rfl;refine Go.Proofs.YtibjkhepedfpiaaGreatDoor.Q.region_ext (by kernel_rfl) (by kernel_rfl) ?_
 repeat (go_big_quiet_step ((go_at_call 124;exact ext_call (kf _))))
 refine wpQuiet_nil ?_;rintro w9 ⟨pq,rfl⟩;have HB2:=Lib.hid (HB1.out.px pq);have HBE:=Lib.hid HB2.out.be;clear kf c0 c1 c2 c3 c4 c5 c6 c7
 go_wp2_with (refine wpList_store_blk (g:=w.heap.size) (T:=189) (cs':=zc) rfl 189 _ _ rfl rfl rfl (HB2.out.nth 1 rfl) (by kernel_rfl) (by kernel_rfl) (by kernel_rfl) (by kernel_rfl) ?_;intro W9 hW9 hg9 hz9)
 have hVE:=HBE.out.trans (below_of_only hg9 HBE.out.size (fun k hk=>by injection hk with hk;omega));exact bodyPost_ret (v:= .tuple #[.agg zc,.int .i64 12]) (by refine res_row (fn:=Tryz.f154) (p:=2) (q:=3) rfl _ _ w.heap.size 189 _ (0,0) _ ?_ hW9 Tryz.underlying189 rfl (by kernel_rfl);rfl) rfl ⟨by first|(rw[HE.out.1,HE.out.2];rfl),hVE⟩
set_option maxHeartbeats 800000 in
theorem md_short (t:ByteArray) (w:World) (hs:t.size≤1099511627776) (h:decE t=0) (h1:(decS t).table=62) (h2:frm (decS t)) (h3:(decS t).body.size<4):Calls Tryz.prog 154 #[.string t] w fun e w'=>e= .returned (.tuple #[.agg (mdP t).vals,.int .i64 (mdE t)])∧Below w.heap.size w w':=by
 have kd:=fun V=>decode_any t V hs;have HB:=Lib.hid (bk1 w 189 zc);have HE:=Lib.hid (md_zero (t:=t) (c:=10) (by unfold mdE;rw[if_neg (by simpa using h)];unfold secE;rw[if_neg (by simpa using h1),if_neg (by simpa using h2),if_pos h3]) (by decide));have hr:=chk_zero (dec_enc h).1;obtain⟨⟨⟨ra1,ra2⟩,⟨rb1,rb2⟩,⟨rc1,rc2⟩,⟨rd1,rd2⟩,re1,re2⟩,hbs⟩:=hr;rw[h]at kd;obtain⟨s,hse⟩: ∃s,decS t=s:=⟨_,rfl⟩;rw[hse]at kd h1 h2 h3 ra1 ra2 rb1 rb2 rc1 rc2 rd1 rd2 re1 re2 hbs;clear hse h;obtain⟨ta,pr,ex,ve,no,nu,la,bo⟩:=s;unfold Sc.vals at*;dsimp only at*;obtain⟨ex,rfl⟩: ∃n:Nat,ex=(n:Int):=⟨ex.toNat,by omega⟩;have kf:=fun V=>framed_any ex bo V;unfold Sc.vals at kf;dsimp only at kf;have hx:=fun V=>eqTS ⟨62,pr,ex,ve,no,nu,la,bo⟩ ⟨62,false,(ex:Int),0,true,0,0,bo⟩ V;have hfe:=frm_eq ⟨62,pr,ex,ve,no,nu,la,bo⟩ rfl;dsimp only at hfe;rw[hfe]at hx;unfold Sc.vals at hx;dsimp only at hx;rw[h1]at*;rw[decide_eq_true h2]at hx;clear hfe;have t3:decide ((bo.size:Int)<4)=true:=by simp;omega
 clear ra1 ra2 rb1 rb2 rc1 rc2 rd1 rd2 re1 re2 hbs h1 h2 h3
 go_enter Tryz.func154,Tryz.ntmps154
 go_wp2_with fail
 (with_reducible refine(kd _).mono ?_);rintro e1 W1 ⟨rfl,hb1⟩
 have HB1:=Lib.hid ((HB.out.below hb1).new 235 #[.int .i64 62,.bool pr,.int .i64 (ex:Int),.int .i64 ve,.bool no,.int .i64 nu,.int .i64 la,.string bo]);have hgw:w.heap.size<W1.heap.size:=(HB.out.below hb1).lt 0 rfl;clear kd HB hb1
 go_wp2_with fail
 have c0:=fun pX=>Blk.cell (blk_ext (HB1.out.nth 0 rfl) pX) 0 (v:= .int .i64 62) rfl;have c1:=fun pX=>Blk.cell (blk_ext (HB1.out.nth 0 rfl) pX) 1 (v:= .bool pr) rfl;have c2:=fun pX=>Blk.cell (blk_ext (HB1.out.nth 0 rfl) pX) 2 (v:= .int .i64 (ex:Int)) rfl;have c3:=fun pX=>Blk.cell (blk_ext (HB1.out.nth 0 rfl) pX) 3 (v:= .int .i64 ve) rfl;have c4:=fun pX=>Blk.cell (blk_ext (HB1.out.nth 0 rfl) pX) 4 (v:= .bool no) rfl;have c5:=fun pX=>Blk.cell (blk_ext (HB1.out.nth 0 rfl) pX) 5 (v:= .int .i64 nu) rfl;have c6:=fun pX=>Blk.cell (blk_ext (HB1.out.nth 0 rfl) pX) 6 (v:= .int .i64 la) rfl;have c7:=fun pX=>Blk.cell (blk_ext (HB1.out.nth 0 rfl) pX) 7 (v:= .string bo) rfl;refine Go.Proofs.YtibjkhepedfpiaaGreatDoor.Q.region_ext (by kernel_rfl) (by kernel_rfl) ?_
 repeat (go_big_quiet_step ((go_at_call 124;exact ext_call (kf _))))
 refine wpQuiet_nil ?_;rintro w9 ⟨pq,rfl⟩;have HB2:=Lib.hid (HB1.out.px pq);have HBE:=Lib.hid HB2.out.be;clear kf c0 c1 c2 c3 c4 c5 c6 c7;have d7:=Blk.cell (HB2.out.nth 0 rfl) 7 (v:= .string bo) rfl
 go_wp2_with (refine wpList_store_blk (g:=w.heap.size) (T:=189) (cs':=zc) rfl 189 _ _ rfl rfl rfl (HB2.out.nth 1 rfl) (by kernel_rfl) (by kernel_rfl) (by kernel_rfl) (by kernel_rfl) ?_;intro W9 hW9 hg9 hz9)
 have hVE:=HBE.out.trans (below_of_only hg9 HBE.out.size (fun k hk=>by injection hk with hk;omega));exact bodyPost_ret (v:= .tuple #[.agg zc,.int .i64 10]) (by refine res_row (fn:=Tryz.f154) (p:=2) (q:=3) rfl _ _ w.heap.size 189 _ (0,0) _ ?_ hW9 Tryz.underlying189 rfl (by kernel_rfl);rfl) rfl ⟨by first|(rw[HE.out.1,HE.out.2];rfl),hVE⟩
set_option maxHeartbeats 1600000 in
theorem md_go (t:ByteArray) (w:World) (hs:t.size≤1099511627776) (h:decE t=0) (h1:(decS t).table=62) (h2:frm (decS t)) (h3: ¬(decS t).body.size<4):Calls Tryz.prog 154 #[.string t] w fun e w'=>e= .returned (.tuple #[.agg (mdP t).vals,.int .i64 (mdE t)])∧Below w.heap.size w w':=by
 have kd:=fun V=>decode_any t V hs;have HB:=Lib.hid (bk1 w 189 zc);have hE:mdE t=(mpOf (decS t)).chk:=by unfold mdE;rw[if_neg (by simpa using h)];unfold secE;rw[if_neg (by simpa using h1),if_neg (by simpa using h2),if_neg h3]
 have hP:mdP t=if mdE t=0 then mpOf (decS t)else zeroP:=rfl;have hr:=chk_zero (dec_enc h).1;obtain⟨⟨⟨ra1,ra2⟩,⟨rb1,rb2⟩,⟨rc1,rc2⟩,⟨rd1,rd2⟩,re1,re2⟩,hbs⟩:=hr;rw[h]at kd;obtain⟨s,hse⟩: ∃s,decS t=s:=⟨_,rfl⟩;rw[hse]at kd h1 h2 h3 hE hP ra1 ra2 rb1 rb2 rc1 rc2 rd1 rd2 re1 re2 hbs;clear hse h;have kc:=fun V=>mcheck_any (mpOf s) V (by show(s.body.extract 4 s.body.size).size≤_;rw[ByteArray.size_extract];omega);have kt:=fun V=>tdec_any (s.body.extract 0 4) V (by rw[ByteArray.size_extract];omega);rw[←hE]at kc;unfold Mp.vals mpOf at kc;unfold mpOf at hP;obtain⟨c,hc⟩: ∃c,mdE t=c:=⟨_,rfl⟩;rw[hc]at kc hP;have HC:=Lib.hid hc;obtain⟨ta,pr,ex,ve,no,nu,la,bo⟩:=s;unfold Sc.vals at*;dsimp only at*;obtain⟨ex,rfl⟩: ∃n:Nat,ex=(n:Int):=⟨ex.toNat,by omega⟩;have kf:=fun V=>framed_any ex bo V;unfold Sc.vals at kf;dsimp only at kf;have hx:=fun V=>eqTS ⟨62,pr,ex,ve,no,nu,la,bo⟩ ⟨62,false,(ex:Int),0,true,0,0,bo⟩ V;have hfe:=frm_eq ⟨62,pr,ex,ve,no,nu,la,bo⟩ rfl;dsimp only at hfe;rw[hfe]at hx;unfold Sc.vals at hx;dsimp only at hx;rw[h1]at*;rw[decide_eq_true h2]at hx;clear hfe;have t3:decide ((bo.size:Int)<4)=false:=by simp;omega
 have t4:(4:Int)≤(bo.size:Int):=by omega
 obtain⟨TI,hTI⟩: ∃TI,tmD (bo.extract 0 4)=TI:=⟨_,rfl⟩;rw[hTI]at kt kc hP;unfold Ti.vals at kt;obtain⟨de,tb,fr,at'⟩:=TI;dsimp only at kt kc;have HP:=Lib.hid hP;clear ra1 ra2 rb1 rb2 rc1 rc2 rd1 rd2 re1 re2 hbs h1 h2 h3 hE hTI hP hc
 go_enter Tryz.func154,Tryz.ntmps154
 go_wp2_with fail
 (with_reducible refine(kd _).mono ?_);rintro e1 W1 ⟨rfl,hb1⟩
 have HB1:=Lib.hid ((HB.out.below hb1).new 235 #[.int .i64 62,.bool pr,.int .i64 (ex:Int),.int .i64 ve,.bool no,.int .i64 nu,.int .i64 la,.string bo]);have hgw:w.heap.size<W1.heap.size:=(HB.out.below hb1).lt 0 rfl;clear kd HB hb1
 go_wp2_with fail
 have c0:=fun pX=>Blk.cell (blk_ext (HB1.out.nth 0 rfl) pX) 0 (v:= .int .i64 62) rfl;have c1:=fun pX=>Blk.cell (blk_ext (HB1.out.nth 0 rfl) pX) 1 (v:= .bool pr) rfl;have c2:=fun pX=>Blk.cell (blk_ext (HB1.out.nth 0 rfl) pX) 2 (v:= .int .i64 (ex:Int)) rfl;have c3:=fun pX=>Blk.cell (blk_ext (HB1.out.nth 0 rfl) pX) 3 (v:= .int .i64 ve) rfl;have c4:=fun pX=>Blk.cell (blk_ext (HB1.out.nth 0 rfl) pX) 4 (v:= .bool no) rfl;have c5:=fun pX=>Blk.cell (blk_ext (HB1.out.nth 0 rfl) pX) 5 (v:= .int .i64 nu) rfl;have c6:=fun pX=>Blk.cell (blk_ext (HB1.out.nth 0 rfl) pX) 6 (v:= .int .i64 la) rfl;have c7:=fun pX=>Blk.cell (blk_ext (HB1.out.nth 0 rfl) pX) 7 (v:= .string bo) rfl;refine Go.Proofs.YtibjkhepedfpiaaGreatDoor.Q.region_ext (by kernel_rfl) (by kernel_rfl) ?_
 repeat (go_big_quiet_step ((go_at_call 124;exact ext_call (kf _))))
 refine wpQuiet_nil ?_;rintro w9 ⟨pq,rfl⟩;have HB2:=Lib.hid (HB1.out.px pq);have HBE:=Lib.hid HB2.out.be;clear kf c0 c1 c2 c3 c4 c5 c6 c7;have d0:=Blk.cell (HB2.out.nth 0 rfl) 0 (v:= .int .i64 62) rfl;have d1:=Blk.cell (HB2.out.nth 0 rfl) 1 (v:= .bool pr) rfl;have d2:=Blk.cell (HB2.out.nth 0 rfl) 2 (v:= .int .i64 (ex:Int)) rfl;have d3:=Blk.cell (HB2.out.nth 0 rfl) 3 (v:= .int .i64 ve) rfl;have d4:=Blk.cell (HB2.out.nth 0 rfl) 4 (v:= .bool no) rfl;have d5:=Blk.cell (HB2.out.nth 0 rfl) 5 (v:= .int .i64 nu) rfl;have d6:=Blk.cell (HB2.out.nth 0 rfl) 6 (v:= .int .i64 la) rfl;have d7:=Blk.cell (HB2.out.nth 0 rfl) 7 (v:= .string bo) rfl
 go_wp2_with fail
 (with_reducible refine(kt _).mono ?_);rintro e1 W3 ⟨rfl,hb3⟩
 have HB3:=Lib.hid ((HB2.out.below hb3).new 46 #[.int .i64 de,.bool tb,.bool fr,.int .i64 at']);clear kt HB2 hb3 HBE d0 d1 d2 d3 d4 d5 d6 d7
 go_wp2_with fail
 have hgt:W3.heap.size<(W3.alloc (.cells #[.int .i64 de,.bool tb,.bool fr,.int .i64 at'] 46)).heap.size:=HB3.out.lt 0 rfl;obtain⟨g3,hg3⟩: ∃g3,W3.heap.size=g3:=⟨_,rfl⟩;obtain⟨V3,hV3⟩: ∃V3,W3.alloc (.cells #[.int .i64 de,.bool tb,.bool fr,.int .i64 at'] 46)=V3:=⟨_,rfl⟩;rw[hV3]at HB3 hgt ⊢;rw[hg3]at HB3 hgt ⊢;clear hg3 hV3;have y0:=fun pX=>Blk.cell (blk_ext (HB3.out.nth 0 rfl) pX) 0 (v:= .int .i64 de) rfl;have y1:=fun pX=>Blk.cell (blk_ext (HB3.out.nth 0 rfl) pX) 1 (v:= .bool tb) rfl;have y2:=fun pX=>Blk.cell (blk_ext (HB3.out.nth 0 rfl) pX) 2 (v:= .bool fr) rfl;have y3:=fun pX=>Blk.cell (blk_ext (HB3.out.nth 0 rfl) pX) 3 (v:= .int .i64 at') rfl;have d0:=fun pX=>Blk.cell (blk_ext (HB3.out.nth 1 rfl) pX) 0 (v:= .int .i64 62) rfl;have d1:=fun pX=>Blk.cell (blk_ext (HB3.out.nth 1 rfl) pX) 1 (v:= .bool pr) rfl;have d2:=fun pX=>Blk.cell (blk_ext (HB3.out.nth 1 rfl) pX) 2 (v:= .int .i64 (ex:Int)) rfl;have d3:=fun pX=>Blk.cell (blk_ext (HB3.out.nth 1 rfl) pX) 3 (v:= .int .i64 ve) rfl;have d4:=fun pX=>Blk.cell (blk_ext (HB3.out.nth 1 rfl) pX) 4 (v:= .bool no) rfl;have d5:=fun pX=>Blk.cell (blk_ext (HB3.out.nth 1 rfl) pX) 5 (v:= .int .i64 nu) rfl;have d6:=fun pX=>Blk.cell (blk_ext (HB3.out.nth 1 rfl) pX) 6 (v:= .int .i64 la) rfl;have d7:=fun pX=>Blk.cell (blk_ext (HB3.out.nth 1 rfl) pX) 7 (v:= .string bo) rfl;refine Go.Proofs.YtibjkhepedfpiaaGreatDoor.Rg.region_new [(7,newB 189 zc V3.heap.size)] 8 (by kernel_rfl) (by kernel_rfl) (by kernel_rfl) (lk_cons newB_inh lk_nil) (lk_cons newB_mono lk_nil) ?_;intro σ hσ;simp only[List.take_succ_cons,List.take_zero,List.drop_succ_cons,List.drop_zero];refine Go.Proofs.YtibjkhepedfpiaaGreatDoor.Rg.wpN_take 7 (by kernel_rfl) (by kernel_rfl) (by kernel_rfl) ?_;simp only[List.take_succ_cons,List.take_zero,List.drop_succ_cons,List.drop_zero]
 repeat (go_big_quiet_step (fail))
 refine wpQuiet_nil ?_;refine wpN_sp _ rfl (by kernel_rfl) (spAt_newB 189 zc (Nat.le_refl _) (fun _=>rfl)) ?_;simp only[Act.put,List.setIfInBounds_toArray,List.set_cons_zero,List.set_cons_succ];refine wpN_nil ?_;rintro w9 ⟨pq,rfl⟩ hp;obtain⟨gx,hgx,hgl,hgb⟩:=hp 7 _ rfl;rw[hgx];refine wpList_store_blk (cs':= #[.int .i64 (ex:Int),.int .i64 de,.bool tb,.bool fr,.int .i64 at',.string (bo.extract 4 bo.size)]) rfl 189 _ _ rfl rfl rfl hgb (by kernel_rfl) (by kernel_rfl) (by kernel_rfl) (by kernel_rfl) ?_;intro V hV hgr hsz;have HB4:=HB3.out.px pq;have hgl':V3.heap.size≤gx:=hgl
 have HV:=Lib.hid (show Bk w V [(gx,189,#[.int .i64 (ex:Int),.int .i64 de,.bool tb,.bool fr,.int .i64 at',.string (bo.extract 4 bo.size)]),(w.heap.size,189,zc)]from⟨HB4.be.trans (below_of_only hgr HB4.size (fun k hk=>by injection hk with hk;have:=HB3.out.size;omega)),fun x hx=>by
  rcases List.mem_cons.1 hx with rfl|hx
  ·exact hV
  ·rcases List.mem_cons.1 hx with rfl|hx
   ·exact Blk.grown (HB4.nth 2 rfl) hgr (by have:=HB3.out.lt 2 rfl;simp at this ⊢;omega)
   ·cases hx⟩)
 clear hV hgr hsz HB4 hgb hp hσ hgx hgl hgl' HB3 y0 y1 y2 y3 d0 d1 d2 d3 d4 d5 d6 d7;have d0:=Blk.cell (HV.out.nth 0 rfl) 0 (v:= .int .i64 (ex:Int)) rfl;have d1:=Blk.cell (HV.out.nth 0 rfl) 1 (v:= .int .i64 de) rfl;have d2:=Blk.cell (HV.out.nth 0 rfl) 2 (v:= .bool tb) rfl;have d3:=Blk.cell (HV.out.nth 0 rfl) 3 (v:= .bool fr) rfl;have d4:=Blk.cell (HV.out.nth 0 rfl) 4 (v:= .int .i64 at') rfl;have d5:=Blk.cell (HV.out.nth 0 rfl) 5 (v:= .string (bo.extract 4 bo.size)) rfl;have k9:=kc V;clear kc
 go_wp2_with fail
 (with_reducible refine(k9).mono ?_);rintro e1 W5 ⟨rfl,hb5⟩
 have HB5:=Lib.hid (HV.out.below hb5);have HBE:=Lib.hid HB5.out.be;clear k9 hb5 HV d0 d1 d2 d3 d4 d5;by_cases hc:c=0
 ·subst hc
  have HE:=Lib.hid (HP.out.trans (if_pos rfl));have d0:=Blk.cell (HB5.out.nth 0 rfl) 0 (v:= .int .i64 (ex:Int)) rfl;have d1:=Blk.cell (HB5.out.nth 0 rfl) 1 (v:= .int .i64 de) rfl;have d2:=Blk.cell (HB5.out.nth 0 rfl) 2 (v:= .bool tb) rfl;have d3:=Blk.cell (HB5.out.nth 0 rfl) 3 (v:= .bool fr) rfl;have d4:=Blk.cell (HB5.out.nth 0 rfl) 4 (v:= .int .i64 at') rfl;have d5:=Blk.cell (HB5.out.nth 0 rfl) 5 (v:= .string (bo.extract 4 bo.size)) rfl
  go_wp2_with (refine wpList_store_blk (g:=w.heap.size) (T:=189) (cs':= #[.int .i64 (ex:Int),.int .i64 de,.bool tb,.bool fr,.int .i64 at',.string (bo.extract 4 bo.size)]) rfl 189 _ _ rfl rfl rfl (HB5.out.nth 1 rfl) (by kernel_rfl) (by kernel_rfl) (by kernel_rfl) (by kernel_rfl) ?_;intro W9 hW9 hg9 hz9)
  have hVE:=HBE.out.trans (below_of_only hg9 HBE.out.size (fun k hk=>by injection hk with hk;omega));exact bodyPost_ret (v:= .tuple #[.agg #[.int .i64 (ex:Int),.int .i64 de,.bool tb,.bool fr,.int .i64 at',.string (bo.extract 4 bo.size)],.int .i64 0]) (by refine res_row (fn:=Tryz.f154) (p:=2) (q:=3) rfl _ _ w.heap.size 189 _ (0,0) _ ?_ hW9 Tryz.underlying189 rfl (by kernel_rfl);rfl) rfl ⟨by rw[HE.out,HC.out];rfl,hVE⟩
 ·have HE:=Lib.hid (And.intro HC.out (HP.out.trans (if_neg hc)))
  have t9:(c !=0)=true:=by simpa using hc
  clear hc
  go_wp2_with (refine wpList_store_blk (g:=w.heap.size) (T:=189) (cs':=zc) rfl 189 _ _ rfl rfl rfl (HB5.out.nth 1 rfl) (by kernel_rfl) (by kernel_rfl) (by kernel_rfl) (by kernel_rfl) ?_;intro W9 hW9 hg9 hz9)
  have hVE:=HBE.out.trans (below_of_only hg9 HBE.out.size (fun k hk=>by injection hk with hk;omega));exact bodyPost_ret (v:= .tuple #[.agg zc,.int .i64 c]) (by refine res_row (fn:=Tryz.f154) (p:=2) (q:=3) rfl _ _ w.heap.size 189 _ (0,0) _ ?_ hW9 Tryz.underlying189 rfl (by kernel_rfl);rfl) rfl ⟨by first|(rw[HE.out.1,HE.out.2];rfl),hVE⟩
theorem mdec_any (t:ByteArray) (w:World) (hs:t.size≤1099511627776):Calls Tryz.prog 154 #[.string t] w fun e w'=>e= .returned (.tuple #[.agg (mdP t).vals,.int .i64 (mdE t)])∧Below w.heap.size w w':=by
 by_cases h:decE t=0
 ·by_cases h1:(decS t).table=62
  ·by_cases h2:frm (decS t)
   ·by_cases h3:(decS t).body.size<4
    ·exact md_short t w hs h h1 h2 h3
    ·exact md_go t w hs h h1 h2 h3
   ·exact md_form t w hs h h1 h2
  ·exact md_kind t w hs h h1
 ·exact md_bad t w hs h
end Go.Proofs.YtibjkhepedfpiaaGreatDoor.MpC
namespace Go.Proofs.YtibjkhepedfpiaaGreatDoor.MpD
open Go Go.RowKit Q Mem Rg Ap St BiP SeA SeC SeE SeEq SeI SeK SeP TmA TmB MpA MpC
def atP (p:Mp) (x:Ti):Mp:=⟨p.mac,x,p.text⟩
def mwE (t:ByteArray) (x:Ti):Int:=if mdE t=0 then(atP (mdP t) x).chk else mdE t
def mwS (t:ByteArray) (x:Ti):ByteArray:=if mdE t=0 then(atP (mdP t) x).enc else nob
theorem mdp_zero {t:ByteArray} (h:mdE t≠0):mdP t=zeroP:=(md_zero rfl h).2
theorem dp_size (t:ByteArray):(mdP t).text.size≤1099511627776:=by
 by_cases h:mdE t=0
 ·unfold mdP
  rw[if_pos h];unfold mdE at h;by_cases h1:decE t=0
  ·have hb:=(chk_zero (dec_enc h1).1).2
   show((decS t).body.extract 4 (decS t).body.size).size≤_;rw[ByteArray.size_extract];omega
  ·rw[if_pos h1]at h;exact absurd h h1
 ·rw[mdp_zero h]
  exact Nat.zero_le _
set_option maxRecDepth 100000
theorem mwith_any (t:ByteArray) (x:Ti) (w:World) (hs:t.size≤1099511627776):Calls Tryz.prog 129 #[.string t,.agg x.vals] w fun e w'=>e= .returned (.tuple #[.string (mwS t x),.int .i64 (mwE t x)])∧Below w.heap.size w w':=by
 have kd:=fun V=>mdec_any t V hs;have ke:=fun V=>menc_any (atP (mdP t) x) V (dp_size t);have HB:=Lib.hid (bk1 w 46 x.vals);unfold Ti.vals at*;by_cases h:mdE t=0
 ·rw[show mwE t x=(atP (mdP t) x).chk from if_pos h,show mwS t x=(atP (mdP t) x).enc from if_pos h]
  rw[h]at kd;obtain⟨E,hE⟩: ∃E,(atP (mdP t) x).chk=E:=⟨_,rfl⟩;obtain⟨S,hS⟩: ∃S,(atP (mdP t) x).enc=S:=⟨_,rfl⟩;rw[hE,hS]at ke ⊢;unfold Mp.vals atP at ke;unfold Mp.vals at kd;dsimp only at ke;clear hE hS h;obtain⟨Q,hQ⟩: ∃Q,mdP t=Q:=⟨_,rfl⟩;rw[hQ]at kd ke;clear hQ;obtain⟨pa,ti,te⟩:=Q;obtain⟨od,ot,of',oa⟩:=ti;obtain⟨d,ta,fr,a⟩:=x;dsimp only at*
  go_enter Tryz.func129,Tryz.ntmps129
  go_wp2_with fail
  (with_reducible refine(kd _).mono ?_);rintro e1 W1 ⟨rfl,hb1⟩
  have HB1:=Lib.hid ((HB.out.below hb1).new 189 #[.int .i64 pa,.int .i64 od,.bool ot,.bool of',.int .i64 oa,.string te]);have hgw:w.heap.size<W1.heap.size:=(HB.out.below hb1).lt 0 rfl;clear kd hb1 HB;have d0:=Blk.cell (HB1.out.nth 1 rfl) 0 (v:= .int .i64 d) rfl;have d1:=Blk.cell (HB1.out.nth 1 rfl) 1 (v:= .bool ta) rfl;have d2:=Blk.cell (HB1.out.nth 1 rfl) 2 (v:= .bool fr) rfl;have d3:=Blk.cell (HB1.out.nth 1 rfl) 3 (v:= .int .i64 a) rfl
  go_wp2_with (refine wpList_store_blk (g:=W1.heap.size) (T:=189) (cs':= #[.int .i64 pa,.int .i64 d,.bool ta,.bool fr,.int .i64 a,.string te]) rfl 46 _ _ rfl rfl rfl (HB1.out.nth 0 rfl) (by kernel_rfl) (by kernel_rfl) (by kernel_rfl) (by kernel_rfl) ?_;clear d0 d1 d2 d3;intro V hV hgr hsz;have d0:=Blk.cell hV 0 (v:= .int .i64 pa) rfl;have d1:=Blk.cell hV 1 (v:= .int .i64 d) rfl;have d2:=Blk.cell hV 2 (v:= .bool ta) rfl;have d3:=Blk.cell hV 3 (v:= .bool fr) rfl;have d4:=Blk.cell hV 4 (v:= .int .i64 a) rfl;have d5:=Blk.cell hV 5 (v:= .string te) rfl)
  have HV:=Lib.hid (show Bk w V [(W1.heap.size,189,#[.int .i64 pa,.int .i64 d,.bool ta,.bool fr,.int .i64 a,.string te])]from⟨HB1.out.be.trans (below_of_only hgr HB1.out.size (fun k hk=>by injection hk with hk;omega)),fun x hx=>by
   rcases List.mem_cons.1 hx with rfl|hx
   ·exact hV
   ·cases hx⟩)
  clear hV hgr hsz HB1
  (with_reducible refine(ke _).mono ?_);rintro e1 W2 ⟨rfl,hb2⟩
  have hE:=(HV.out.below hb2).be
  go_wp2_with fail
  go_ret2
  exact⟨rfl,hE⟩
 ·rw[show mwE t x=mdE t from if_neg h,show mwS t x=nob from if_neg h]
  obtain⟨c,hc⟩: ∃c,mdE t=c:=⟨_,rfl⟩;rw[hc]at kd h ⊢;obtain⟨Q,hQ⟩: ∃Q,mdP t=Q:=⟨_,rfl⟩;rw[hQ]at kd;have t1:(c !=0)=true:=by simpa using h
  unfold Mp.vals at kd;clear hc h hQ ke
  go_enter Tryz.func129,Tryz.ntmps129
  go_wp2_with fail
  (with_reducible refine(kd _).mono ?_);rintro e1 W1 ⟨rfl,hb1⟩
  have hE:=((HB.out.below hb1).new 189 Q.vals).be;unfold Mp.vals at hE
  go_wp2_with fail
  go_ret2
  exact⟨rfl,hE⟩
theorem is_any (t:ByteArray) (w:World):Calls Tryz.prog 127 #[.string t] w fun e w'=>e= .returned (.bool (decide (0<t.size∧at' t 0=62)))∧w=w':=by
 by_cases h:t.size=0
 ·have ht:t=nob:=by
   apply bl_inj;rw[show bl nob=[]from rfl];exact List.eq_nil_of_length_eq_zero (by rw[bl_len];exact h)
  subst ht
  go_enter Tryz.func127,Tryz.ntmps127
  go_wp2_with fail
  go_ret;exact⟨rfl,rfl⟩
 ·have hi:=fun V=>idx_at t 0 (by omega) V
  have hn:(t.toList !=(nob:ByteArray).toList)=true:=by
   rw[bne,bytes_eq];have:t≠nob:=by rintro rfl;exact h rfl
   simp[this]
  have hn2:t.toList.isEmpty=false:=by rw[isEmpty_iff];simpa using h
  have HE:=Lib.hid (show(at' t 0==62)=decide (0<t.size∧at' t 0=62) by
   show decide (at' t 0=62)=_;rw[decide_eq_decide];exact⟨fun h'=>⟨by omega,h'⟩,fun h'=>h'.2⟩)
  rw[show(((0:Nat)):Int)=0 from rfl]at hi;clear h
  go_enter Tryz.func127,Tryz.ntmps127
  go_wp2_with fail
  go_ret;exact⟨by rw[←HE.out];rfl,rfl⟩
end Go.Proofs.YtibjkhepedfpiaaGreatDoor.MpD
namespace Go.Proofs.YtibjkhepedfpiaaGreatDoor.MpP
open Go Go.RowKit Q Mem Rg Ap St BiP CrP CrC SeA SeC SeE SeEq SeI SeP TmA TmB MpA MpC MpD
theorem mp_iff {a b:Mp}:a=b↔a.mac=b.mac∧a.times.delta=b.times.delta∧a.times.table=b.times.table∧a.times.frame=b.times.frame∧a.times.at_=b.times.at_∧a.text=b.text:=
 ⟨fun h=>by subst h;simp,fun⟨h1,h2,h3,h4,h5,h6⟩=>by
  obtain⟨_,⟨_,_,_,_⟩,_⟩:=a;obtain⟨_,⟨_,_,_,_⟩,_⟩:=b
  simp_all⟩
instance:DecidableEq Mp:=fun _ _=>decidable_of_iff _ mp_iff.symm
theorem encT_ok {t:Ti} (h:t.ok):encT t=str (tmL t):=by unfold encT;rw[if_pos (tchk_ok h)]
theorem sec_body {p:Mp} (h:p.times.ok):bl p.sec.body=tmL p.times++bl p.text:=by
 show bl (encT p.times++p.text)=_;rw[encT_ok h,bl_app,bl_str]
theorem sec_size {p:Mp} (h:p.times.ok):p.sec.body.size=4+p.text.size:=by rw[←bl_len,sec_body h,List.length_append,tm_len,bl_len]
theorem mpOf_sec {p:Mp} (h:p.chk=0):mpOf p.sec=p:=by
 obtain⟨⟨a1,a2⟩,h2,h3⟩:=mchk_zero h;have e1:p.sec.body.extract 0 4=str (tmL p.times):=bl_inj (by rw[ext_bl,bl_str,sec_body h2,List.drop_zero,List.take_append_of_le_length (by rw[tm_len];omega),List.take_of_length_le (by rw[tm_len];omega)]);have e2:p.sec.body.extract 4 p.sec.body.size=p.text:=bl_inj (by rw[ext_bl,sec_body h2,sec_size h2,List.drop_append_of_le_length (by rw[tm_len];omega),List.drop_of_length_le (by rw[tm_len];omega),List.nil_append,List.take_of_length_le (by rw[bl_len];omega)]);unfold mpOf;rw[e1,e2,tmD_tmL _ h2];rfl
theorem md_enc {p:Mp} (h:p.chk=0):mdE p.enc=0∧mdP p.enc=p:=by
 have he:p.enc=bytesS p.sec:=by unfold Mp.enc;rw[if_pos h]
 obtain⟨h1,h2,_,_⟩:=enc_dec (sec_ok h);obtain⟨⟨a1,a2⟩,ht,hsz⟩:=mchk_zero h
 have h3:mdE p.enc=0:=by
  unfold mdE;rw[he,if_neg (by simpa using h1),h2];unfold secE;rw[if_neg (by simp[Mp.sec]),if_neg (Classical.not_not.2 ⟨rfl,rfl,rfl,rfl,rfl⟩),if_neg (by rw[sec_size ht];omega),mpOf_sec h,h]
 refine⟨h3,?_⟩;unfold mdP;rw[if_pos h3,he,h2,mpOf_sec h]
theorem md_parts {t:ByteArray} (h:mdE t=0):decE t=0∧(decS t).table=62∧frm (decS t)∧ ¬(decS t).body.size<4∧(mpOf (decS t)).chk=0∧mdP t=mpOf (decS t):=by
 have hp:mdP t=mpOf (decS t):=by unfold mdP;rw[if_pos h]
 unfold mdE at h;by_cases h1:decE t=0
 ·rw[if_neg (by simpa using h1)]at h
  unfold secE at h;by_cases h2:(decS t).table=62
  ·rw[if_neg (by simpa using h2)]at h
   by_cases h3:frm (decS t)
   ·rw[if_neg (by simpa using h3)]at h
    by_cases h4:(decS t).body.size<4
    ·rw[if_pos h4]at h;omega
    ·rw[if_neg h4]at h
     exact⟨h1,h2,h3,h4,h,hp⟩
   ·rw[if_pos h3]at h;omega
  ·rw[if_pos h2]at h;omega
 ·rw[if_pos h1]at h;exact absurd h h1
theorem enc_md {t:ByteArray} (h:mdE t=0):(mdP t).chk=0∧(mdP t).enc=t:=by
 obtain⟨h1,h2,h3,h4,h5,h6⟩:=md_parts h;obtain⟨c1,c2⟩:=dec_enc h1;rw[h6];refine⟨h5,?_⟩
 have hs:(mpOf (decS t)).sec=decS t:=by
  rw[sc_iff];obtain⟨g1,g2,g3,g4,g5⟩:=h3;refine⟨h2.symm,g1.symm,rfl,g2.symm,g3.symm,g4.symm,g5.symm,?_⟩
  ·apply bl_inj
   show bl (encT (tmD ((decS t).body.extract 0 4))++(decS t).body.extract 4 (decS t).body.size)=_;rw[encT_ok (tmD_ok _),bl_app,bl_str,tmL_tmD _ (by rw[ByteArray.size_extract];omega),ext_bl,ext_bl,List.drop_zero,Nat.sub_zero]
   conv=>rhs;rw[←List.take_append_drop 4 (bl (decS t).body)]
   congr 1
   exact List.take_of_length_le (by rw[List.length_drop,bl_len];omega)
 unfold Mp.enc;rw[if_pos h5,hs,c2]
theorem enc_size {p:Mp} (h:p.chk=0):p.enc.size=p.text.size+16:=by
 unfold Mp.enc;rw[if_pos h,bytes_size,sec_size (mchk_zero h).2.1];omega
theorem enc_bl {p:Mp} (h:p.chk=0): ∃c,bl p.enc=frontL p.sec++(tmL p.times++(bl p.text++c))∧c.length=4:=by
 refine⟨four (sumL (frontL p.sec++bl p.sec.body)),?_,rfl⟩;unfold Mp.enc;rw[if_pos h,bytes_bl];unfold sealL;rw[sec_body (mchk_zero h).2.1];simp[List.append_assoc]
set_option maxRecDepth 100000
end Go.Proofs.YtibjkhepedfpiaaGreatDoor.MpP
namespace Go.Proofs.YtibjkhepedfpiaaGreatDoor.MpR
open Go Go.RowKit Q Mem Rg Ap St Ints BiP CrC CrD SeA SeC SeE SeEq SeI SeK SeP TmA TmB MpA MpC DgC DgG
set_option maxRecDepth 100000 in
theorem text_any (a:Option Addr) (c m:Nat) (L:List Int) (w:World) (hm:L.length=m) (hl:L.length≤1000) (hL:Ints w a L) (hv:inB 255 L=true):
 Calls Tryz.prog 98 #[.slice a m c] w fun e w'=>e= .returned (.string (strOfNums L))∧Below w.heap.size w w':=by
 subst hm;have HL:=Lib.hid hL;clear hL
 go_enter Tryz.func98,Tryz.ntmps98
 go_wp2_with fail
 go_loopw [3,4] (fun out i wr=> ∃(k:Nat) (b:ByteArray),k≤L.length∧out= .string b∧i= .int .i64 k∧Hid (b=strOfNums (L.take k))∧b.size≤k∧Below w.heap.size w wr) (fun _ i _=>L.length-(intOf i).toNat)
 case atStart=>exact⟨0,nob,by omega,rfl,rfl,Lib.hid rfl,Nat.zero_le _,Below.refl _ _⟩
 case round=>
  obtain⟨k,b,hk,rfl,rfl,hI,hbs,hb⟩:=hrel;by_cases hkl:k<L.length
  ·have t0:decide (k<L.length)=true:=by simpa using hkl
   obtain⟨x,hx⟩: ∃x,L[k]? =some x:=⟨L[k],List.getElem?_eq_getElem hkl⟩
   have hx1:0≤x∧x≤255:=by
    have:=List.all_eq_true.1 hv x (List.mem_of_getElem? hx);simpa [in1]using this
   obtain⟨b1,o1,rfl,l1,c1⟩:=HL.out.below (Nat.le_refl _) hb k x hx;have q2:IntKind.u8.wrap x=x:=by rw[IntKind.wrap_u8];omega
   have hcv:=conv_new wr [x] 1 wr.heap.size #[.int .u8 x] rfl rfl rfl;have hadd: ∀U:World,(Op.stringOp .add b (strOfNums [x])).run Tryz.prog U= .ok (.string (b++strOfNums [x])) U:=fun U=>run_string_add_sum U _ _ (by rw[son_size];simp only[List.length_cons,List.length_nil];omega)
   have hnew:b++strOfNums [x]=strOfNums (L.take (k+1)):=by
    rw[hI.out,son_append,List.take_add_one,hx];rfl
   have hbs2:(b++strOfNums [x]).size≤k+1:=by rw[ByteArray.size_append,son_size];simp only[List.length_cons,List.length_nil];omega
   have HN:=Lib.hid hnew;have hb2:=hb.alloc hb.size (.cells #[.int .u8 x] 5);clear hnew hx hx1 hb hv
   go_wp2_with fail
   go_roundw
   case rel=>exact⟨k+1,_,by omega,rfl,by go_num,HN,hbs2,hb2⟩
   case measure=>simp[intOf];omega
  ·obtain rfl:k=L.length:=by omega
   have t0:decide (L.length<L.length)=false:=by simp
   have HB:=Lib.hid (hI.out.trans (by rw[List.take_length]));clear hI
   go_wp2_with fail
   go_ret;exact⟨by rw[HB.out];rfl,hb⟩
set_option maxRecDepth 100000
end Go.Proofs.YtibjkhepedfpiaaGreatDoor.MpR
namespace Go.Proofs.YtibjkhepedfpiaaGreatDoor.MpS
open Go Go.RowKit Q Mem Rg Ap St Ints BiP CrC CrD SeA SeC SeE SeEq SeI SeK SeP TmA TmB MpA MpC DgC MpR
set_option maxRecDepth 100000
def mnums (p:Mp):List Int:=[62,176+(13+(p.text.size:Int))/256,(13+(p.text.size:Int))%256,p.mac/256,p.mac%256,193,0,0,p.times.delta/16,16*(p.times.delta%16)+p.times.at_/65536+8*(nb p.times.table:Int)+4*(nb p.times.frame:Int),p.times.at_/256%256,p.times.at_%256]
theorem mnums_in {p:Mp} (h:p.chk=0):inB 255 (mnums p)=true:=by
 obtain⟨⟨a1,a2⟩,h2,h3⟩:=mchk_zero h;have h5:=dg_size h3;have n1:=nb_le p.times.table;have n2:=nb_le p.times.frame;unfold Ti.ok at h2;simp only[mnums,inB,List.all_cons,List.all_nil,in1,Bool.and_eq_true,decide_eq_true_eq,Bool.and_true];omega
theorem mnums_bytes {p:Mp} (h:p.chk=0):bytesS p.sec=str (sealL (bl (strOfNums (mnums p)++p.text))):=by
 obtain⟨⟨a1,a2⟩,h2,h3⟩:=mchk_zero h;have h5:=dg_size h3;have n1:=nb_le p.times.table;have n2:=nb_le p.times.frame;have he:encT p.times=str (tmL p.times):=by unfold encT;rw[if_pos (tchk_ok h2)]
 unfold Ti.ok at h2;unfold bytesS
 congr 2
 have hb:bl p.sec.body=tmL p.times++bl p.text:=by
  show bl (encT p.times++p.text)=_;rw[he,bl_app,bl_str]
 have hs:p.sec.body.size=4+p.text.size:=by rw[←bl_len,hb,List.length_append,tm_len,bl_len]
 rw[hb,bl_app,nums_str,bl_str,←List.append_assoc]
 congr 1
 unfold frontL mnums tmL;rw[hs];simp only[Mp.sec,List.map_cons,List.map_nil,List.cons_append,List.nil_append];have e0:nb true=1:=rfl;have e1:nb false=0:=rfl;rw[e0,e1];have q1:(176+(13+(p.text.size:Int))/256).toNat=176+64*0+(4+p.text.size+9)/256:=by omega
 have q2:((13+(p.text.size:Int))%256).toNat=(4+p.text.size+9)%256:=by omega
 have q3:(p.mac/256).toNat=p.mac.toNat/256:=by omega
 have q4:(p.mac%256).toNat=p.mac.toNat%256:=by omega
 have q5:(p.times.delta/16).toNat=p.times.delta.toNat/16:=by omega
 have q6:(16*(p.times.delta%16)+p.times.at_/65536+8*(nb p.times.table:Int)+4*(nb p.times.frame:Int)).toNat=p.times.delta.toNat%16*16+nb p.times.table*8+nb p.times.frame*4+p.times.at_.toNat/65536:=by omega
 have q7:(p.times.at_/256%256).toNat=p.times.at_.toNat/256%256:=by omega
 have q8:(p.times.at_%256).toNat=p.times.at_.toNat%256:=by omega
 rw[q1,q2,q3,q4,q5,q6,q7,q8];rfl
set_option maxHeartbeats 3200000 in
theorem rmbytes_any (p:Mp) (w:World) (h:p.chk=0):Calls Tryz.prog 66 #[.agg p.vals] w fun e w'=>e= .returned (.string (bytesS p.sec))∧Below w.heap.size w w':=by
 have hin:=mnums_in h;have hX:=mnums_bytes h;have hlen:(mnums p).length=12:=rfl;have hF:mnums p=[62,176+(13+(p.text.size:Int))/256,(13+(p.text.size:Int))%256,p.mac/256,p.mac%256,193,0,0,p.times.delta/16,16*(p.times.delta%16)+p.times.at_/65536+8*(nb p.times.table:Int)+4*(nb p.times.frame:Int),p.times.at_/256%256,p.times.at_%256]:=rfl;have HTX:=Lib.hid (fun V a (hI:Ints V a (mnums p))=>text_any a 12 12 (mnums p) V rfl (by rw[hlen];omega) hI hin);obtain⟨⟨a1,a2⟩,h2,h3⟩:=mchk_zero h;have h5:=dg_size h3;have n1:=nb_le p.times.table;have n2:=nb_le p.times.frame;obtain⟨⟨d1,d2⟩,e1,e2⟩:=h2;have HB:=bk1 w 109 p.vals;unfold Mp.vals at HB ⊢;obtain⟨S,hS⟩: ∃S,bytesS p.sec=S:=⟨_,rfl⟩;rw[hS]at hX ⊢;have hadd:=fun V=>add_at (strOfNums (mnums p)) p.text (by rw[son_size,hlen];omega) V;have kl:=fun V=>rseal_any (strOfNums (mnums p)++p.text) V (by rw[ByteArray.size_append,son_size,hlen];omega);rw[←hX]at kl;obtain⟨FN,hFN⟩: ∃FN,mnums p=FN:=⟨_,rfl⟩;rw[hFN]at HTX hF hadd kl;obtain⟨Z,hZ⟩: ∃Z,strOfNums FN=Z:=⟨_,rfl⟩;rw[hZ]at HTX hadd kl;obtain⟨pa,⟨d,ta,fr,a⟩,te⟩:=p;dsimp only at*;obtain⟨Y,hY⟩: ∃Y,Z++te=Y:=⟨_,rfl⟩;rw[hY]at hadd kl;obtain⟨M,hM⟩: ∃M:Nat,te.size=M:=⟨_,rfl⟩;rw[hM]at hF;obtain⟨TH,hTH⟩: ∃TH,16*(d%16)+a/65536+8*(nb ta:Int)+4*(nb fr:Int)=TH:=⟨_,rfl⟩;rw[hTH]at hF;have HFN:=Lib.hid hF;have HB:=Lib.hid HB;have hm:(M:Int)≤4080:=by omega
 obtain⟨T0,hT0⟩: ∃T0,16*(d%16)+a/65536=T0:=⟨_,rfl⟩;rw[hT0]at hTH;have ht0:0≤T0∧T0≤243:=by omega
 obtain⟨tz1,tz2⟩:=ht0;clear hX hFN hZ hY hF hS hin hlen h h3 h5 n1 n2
 cases ta<;>cases fr
 case false.false=>
  obtain rfl:TH=T0:=by rw[←hTH];simp[nb]
  clear hTH;have c0:=fun pX=>Blk.cell (blk_ext (HB.out.nth 0 rfl) pX) 0 (v:= .int .i64 pa) rfl;have c1:=fun pX=>Blk.cell (blk_ext (HB.out.nth 0 rfl) pX) 1 (v:= .int .i64 d) rfl;have c2:=fun pX=>Blk.cell (blk_ext (HB.out.nth 0 rfl) pX) 2 (v:= .bool false) rfl;have c3:=fun pX=>Blk.cell (blk_ext (HB.out.nth 0 rfl) pX) 3 (v:= .bool false) rfl;have c4:=fun pX=>Blk.cell (blk_ext (HB.out.nth 0 rfl) pX) 4 (v:= .int .i64 a) rfl;have c5:=fun pX=>Blk.cell (blk_ext (HB.out.nth 0 rfl) pX) 5 (v:= .string te) rfl
  go_enter Tryz.func66,Tryz.ntmps66
  go_wp2_with fail
  refine Go.Proofs.YtibjkhepedfpiaaGreatDoor.Rg.region_new_all [(25,newS 12 3 #[.int .i64 62,.int .i64 (176+(13+(M:Int))/256),.int .i64 ((13+(M:Int))%256),.int .i64 (pa/256),.int .i64 (pa%256),.int .i64 193,.int .i64 0,.int .i64 0,.int .i64 (d/16),.int .i64 (TH),.int .i64 (a/256%256),.int .i64 (a%256)] 0),(26,val (.string Z)),(30,val (.string S))] (by kernel_rfl) (by kernel_rfl) (by kernel_rfl) (lk_cons newS_inh (lk_cons val_inh (lk_cons val_inh lk_nil))) (lk_cons newS_mono (lk_cons val_mono (lk_cons val_mono lk_nil))) ?_;intro σ hσ;have hs26:σ 26= .string Z:=hσ 26 _ rfl;have hs30:σ 30= .string S:=hσ 30 _ rfl;refine Go.Proofs.YtibjkhepedfpiaaGreatDoor.Rg.wpN_take 25 (by kernel_rfl) (by kernel_rfl) (by kernel_rfl) ?_;simp only[List.take_succ_cons,List.take_zero,List.drop_succ_cons,List.drop_zero]
  repeat (go_big_quiet_step (fail))
  refine wpQuiet_nil ?_;refine wpN_sp _ rfl (by kernel_rfl) (spAt_newS 12 3 #[.int .i64 62,.int .i64 (176+(13+(M:Int))/256),.int .i64 ((13+(M:Int))%256),.int .i64 (pa/256),.int .i64 (pa%256),.int .i64 193,.int .i64 0,.int .i64 0,.int .i64 (d/16),.int .i64 (TH),.int .i64 (a/256%256),.int .i64 (a%256)] (Nat.zero_le _) (by intro w0;go_simp)) ?_;simp only[Act.put,List.setIfInBounds_toArray,List.set_cons_zero,List.set_cons_succ];refine wpN_sp _ rfl (by kernel_rfl) (spAt_val (f:=98) (args:= #[σ 25]) (by intro w0;go_simp) (fun p hd=>?_)) ?_
  ·obtain⟨g,hg,_,hblk⟩:=dep_at hd 25 rfl (by kernel_rfl)
   rw[hg];exact HTX.out _ _ (ints_blk hblk (by rw[HFN.out];rfl))
  simp only[Act.put,List.setIfInBounds_toArray,List.set_cons_zero,List.set_cons_succ];rw[hs26];refine Go.Proofs.YtibjkhepedfpiaaGreatDoor.Rg.wpN_take 3 (by kernel_rfl) (by kernel_rfl) (by kernel_rfl) ?_;simp only[List.take_succ_cons,List.take_zero,List.drop_succ_cons,List.drop_zero]
  repeat (go_big_quiet_step (fail))
  refine wpQuiet_nil ?_;refine wpN_sp _ rfl (by kernel_rfl) (spAt_val (f:=67) (args:= #[.string Y]) (by intro w0;go_simp) (fun p hd=>?_)) ?_
  ·exact kl _
  simp only[Act.put,List.setIfInBounds_toArray,List.set_cons_zero,List.set_cons_succ];rw[hs30];refine Go.Proofs.YtibjkhepedfpiaaGreatDoor.Rg.wpN_take 1 (by kernel_rfl) (by kernel_rfl) (by kernel_rfl) ?_;simp only[List.take_succ_cons,List.take_zero,List.drop_succ_cons,List.drop_zero]
  repeat (go_big_quiet_step (fail))
  refine wpQuiet_nil ?_;refine wpN_nil ?_;rintro w9 ⟨pq,rfl⟩ _;have hE:=(HB.out.px pq).be
  go_wp2_with fail
  go_ret;exact⟨rfl,hE⟩
 case false.true=>
  obtain rfl:TH=T0+4:=by rw[←hTH];simp[nb]
  clear hTH;have c0:=fun pX=>Blk.cell (blk_ext (HB.out.nth 0 rfl) pX) 0 (v:= .int .i64 pa) rfl;have c1:=fun pX=>Blk.cell (blk_ext (HB.out.nth 0 rfl) pX) 1 (v:= .int .i64 d) rfl;have c2:=fun pX=>Blk.cell (blk_ext (HB.out.nth 0 rfl) pX) 2 (v:= .bool false) rfl;have c3:=fun pX=>Blk.cell (blk_ext (HB.out.nth 0 rfl) pX) 3 (v:= .bool true) rfl;have c4:=fun pX=>Blk.cell (blk_ext (HB.out.nth 0 rfl) pX) 4 (v:= .int .i64 a) rfl;have c5:=fun pX=>Blk.cell (blk_ext (HB.out.nth 0 rfl) pX) 5 (v:= .string te) rfl
  go_enter Tryz.func66,Tryz.ntmps66
  go_wp2_with fail
  refine Go.Proofs.YtibjkhepedfpiaaGreatDoor.Rg.region_new_all [(25,newS 12 3 #[.int .i64 62,.int .i64 (176+(13+(M:Int))/256),.int .i64 ((13+(M:Int))%256),.int .i64 (pa/256),.int .i64 (pa%256),.int .i64 193,.int .i64 0,.int .i64 0,.int .i64 (d/16),.int .i64 (T0+4),.int .i64 (a/256%256),.int .i64 (a%256)] 0),(26,val (.string Z)),(30,val (.string S))] (by kernel_rfl) (by kernel_rfl) (by kernel_rfl) (lk_cons newS_inh (lk_cons val_inh (lk_cons val_inh lk_nil))) (lk_cons newS_mono (lk_cons val_mono (lk_cons val_mono lk_nil))) ?_;intro σ hσ;have hs26:σ 26= .string Z:=hσ 26 _ rfl;have hs30:σ 30= .string S:=hσ 30 _ rfl;refine Go.Proofs.YtibjkhepedfpiaaGreatDoor.Rg.wpN_take 25 (by kernel_rfl) (by kernel_rfl) (by kernel_rfl) ?_;simp only[List.take_succ_cons,List.take_zero,List.drop_succ_cons,List.drop_zero]
  repeat (go_big_quiet_step (fail))
  refine wpQuiet_nil ?_;refine wpN_sp _ rfl (by kernel_rfl) (spAt_newS 12 3 #[.int .i64 62,.int .i64 (176+(13+(M:Int))/256),.int .i64 ((13+(M:Int))%256),.int .i64 (pa/256),.int .i64 (pa%256),.int .i64 193,.int .i64 0,.int .i64 0,.int .i64 (d/16),.int .i64 (T0+4),.int .i64 (a/256%256),.int .i64 (a%256)] (Nat.zero_le _) (by intro w0;go_simp)) ?_;simp only[Act.put,List.setIfInBounds_toArray,List.set_cons_zero,List.set_cons_succ];refine wpN_sp _ rfl (by kernel_rfl) (spAt_val (f:=98) (args:= #[σ 25]) (by intro w0;go_simp) (fun p hd=>?_)) ?_
  ·obtain⟨g,hg,_,hblk⟩:=dep_at hd 25 rfl (by kernel_rfl)
   rw[hg];exact HTX.out _ _ (ints_blk hblk (by rw[HFN.out];rfl))
  simp only[Act.put,List.setIfInBounds_toArray,List.set_cons_zero,List.set_cons_succ];rw[hs26];refine Go.Proofs.YtibjkhepedfpiaaGreatDoor.Rg.wpN_take 3 (by kernel_rfl) (by kernel_rfl) (by kernel_rfl) ?_;simp only[List.take_succ_cons,List.take_zero,List.drop_succ_cons,List.drop_zero]
  repeat (go_big_quiet_step (fail))
  refine wpQuiet_nil ?_;refine wpN_sp _ rfl (by kernel_rfl) (spAt_val (f:=67) (args:= #[.string Y]) (by intro w0;go_simp) (fun p hd=>?_)) ?_
  ·exact kl _
  simp only[Act.put,List.setIfInBounds_toArray,List.set_cons_zero,List.set_cons_succ];rw[hs30];refine Go.Proofs.YtibjkhepedfpiaaGreatDoor.Rg.wpN_take 1 (by kernel_rfl) (by kernel_rfl) (by kernel_rfl) ?_;simp only[List.take_succ_cons,List.take_zero,List.drop_succ_cons,List.drop_zero]
  repeat (go_big_quiet_step (fail))
  refine wpQuiet_nil ?_;refine wpN_nil ?_;rintro w9 ⟨pq,rfl⟩ _;have hE:=(HB.out.px pq).be
  go_wp2_with fail
  go_ret;exact⟨rfl,hE⟩
 case true.false=>
  obtain rfl:TH=T0+8:=by rw[←hTH];simp[nb]
  clear hTH;have c0:=fun pX=>Blk.cell (blk_ext (HB.out.nth 0 rfl) pX) 0 (v:= .int .i64 pa) rfl;have c1:=fun pX=>Blk.cell (blk_ext (HB.out.nth 0 rfl) pX) 1 (v:= .int .i64 d) rfl;have c2:=fun pX=>Blk.cell (blk_ext (HB.out.nth 0 rfl) pX) 2 (v:= .bool true) rfl;have c3:=fun pX=>Blk.cell (blk_ext (HB.out.nth 0 rfl) pX) 3 (v:= .bool false) rfl;have c4:=fun pX=>Blk.cell (blk_ext (HB.out.nth 0 rfl) pX) 4 (v:= .int .i64 a) rfl;have c5:=fun pX=>Blk.cell (blk_ext (HB.out.nth 0 rfl) pX) 5 (v:= .string te) rfl
  go_enter Tryz.func66,Tryz.ntmps66
  go_wp2_with fail
  refine Go.Proofs.YtibjkhepedfpiaaGreatDoor.Rg.region_new_all [(25,newS 12 3 #[.int .i64 62,.int .i64 (176+(13+(M:Int))/256),.int .i64 ((13+(M:Int))%256),.int .i64 (pa/256),.int .i64 (pa%256),.int .i64 193,.int .i64 0,.int .i64 0,.int .i64 (d/16),.int .i64 (T0+8),.int .i64 (a/256%256),.int .i64 (a%256)] 0),(26,val (.string Z)),(30,val (.string S))] (by kernel_rfl) (by kernel_rfl) (by kernel_rfl) (lk_cons newS_inh (lk_cons val_inh (lk_cons val_inh lk_nil))) (lk_cons newS_mono (lk_cons val_mono (lk_cons val_mono lk_nil))) ?_;intro σ hσ;have hs26:σ 26= .string Z:=hσ 26 _ rfl;have hs30:σ 30= .string S:=hσ 30 _ rfl;refine Go.Proofs.YtibjkhepedfpiaaGreatDoor.Rg.wpN_take 25 (by kernel_rfl) (by kernel_rfl) (by kernel_rfl) ?_;simp only[List.take_succ_cons,List.take_zero,List.drop_succ_cons,List.drop_zero]
  repeat (go_big_quiet_step (fail))
  refine wpQuiet_nil ?_;refine wpN_sp _ rfl (by kernel_rfl) (spAt_newS 12 3 #[.int .i64 62,.int .i64 (176+(13+(M:Int))/256),.int .i64 ((13+(M:Int))%256),.int .i64 (pa/256),.int .i64 (pa%256),.int .i64 193,.int .i64 0,.int .i64 0,.int .i64 (d/16),.int .i64 (T0+8),.int .i64 (a/256%256),.int .i64 (a%256)] (Nat.zero_le _) (by intro w0;go_simp)) ?_;simp only[Act.put,List.setIfInBounds_toArray,List.set_cons_zero,List.set_cons_succ];refine wpN_sp _ rfl (by kernel_rfl) (spAt_val (f:=98) (args:= #[σ 25]) (by intro w0;go_simp) (fun p hd=>?_)) ?_
  ·obtain⟨g,hg,_,hblk⟩:=dep_at hd 25 rfl (by kernel_rfl)
   rw[hg];exact HTX.out _ _ (ints_blk hblk (by rw[HFN.out];rfl))
  simp only[Act.put,List.setIfInBounds_toArray,List.set_cons_zero,List.set_cons_succ];rw[hs26];refine Go.Proofs.YtibjkhepedfpiaaGreatDoor.Rg.wpN_take 3 (by kernel_rfl) (by kernel_rfl) (by kernel_rfl) ?_;simp only[List.take_succ_cons,List.take_zero,List.drop_succ_cons,List.drop_zero]
  repeat (go_big_quiet_step (fail))
  refine wpQuiet_nil ?_;refine wpN_sp _ rfl (by kernel_rfl) (spAt_val (f:=67) (args:= #[.string Y]) (by intro w0;go_simp) (fun p hd=>?_)) ?_
  ·exact kl _
  simp only[Act.put,List.setIfInBounds_toArray,List.set_cons_zero,List.set_cons_succ];rw[hs30];refine Go.Proofs.YtibjkhepedfpiaaGreatDoor.Rg.wpN_take 1 (by kernel_rfl) (by kernel_rfl) (by kernel_rfl) ?_;simp only[List.take_succ_cons,List.take_zero,List.drop_succ_cons,List.drop_zero]
  repeat (go_big_quiet_step (fail))
  refine wpQuiet_nil ?_;refine wpN_nil ?_;rintro w9 ⟨pq,rfl⟩ _;have hE:=(HB.out.px pq).be
  go_wp2_with fail
  go_ret;exact⟨rfl,hE⟩
 case true.true=>
  obtain rfl:TH=T0+8+4:=by rw[←hTH];simp[nb]
  clear hTH;have c0:=fun pX=>Blk.cell (blk_ext (HB.out.nth 0 rfl) pX) 0 (v:= .int .i64 pa) rfl;have c1:=fun pX=>Blk.cell (blk_ext (HB.out.nth 0 rfl) pX) 1 (v:= .int .i64 d) rfl;have c2:=fun pX=>Blk.cell (blk_ext (HB.out.nth 0 rfl) pX) 2 (v:= .bool true) rfl;have c3:=fun pX=>Blk.cell (blk_ext (HB.out.nth 0 rfl) pX) 3 (v:= .bool true) rfl;have c4:=fun pX=>Blk.cell (blk_ext (HB.out.nth 0 rfl) pX) 4 (v:= .int .i64 a) rfl;have c5:=fun pX=>Blk.cell (blk_ext (HB.out.nth 0 rfl) pX) 5 (v:= .string te) rfl
  go_enter Tryz.func66,Tryz.ntmps66
  go_wp2_with fail
  refine Go.Proofs.YtibjkhepedfpiaaGreatDoor.Rg.region_new_all [(25,newS 12 3 #[.int .i64 62,.int .i64 (176+(13+(M:Int))/256),.int .i64 ((13+(M:Int))%256),.int .i64 (pa/256),.int .i64 (pa%256),.int .i64 193,.int .i64 0,.int .i64 0,.int .i64 (d/16),.int .i64 (T0+8+4),.int .i64 (a/256%256),.int .i64 (a%256)] 0),(26,val (.string Z)),(30,val (.string S))] (by kernel_rfl) (by kernel_rfl) (by kernel_rfl) (lk_cons newS_inh (lk_cons val_inh (lk_cons val_inh lk_nil))) (lk_cons newS_mono (lk_cons val_mono (lk_cons val_mono lk_nil))) ?_;intro σ hσ;have hs26:σ 26= .string Z:=hσ 26 _ rfl;have hs30:σ 30= .string S:=hσ 30 _ rfl;refine Go.Proofs.YtibjkhepedfpiaaGreatDoor.Rg.wpN_take 25 (by kernel_rfl) (by kernel_rfl) (by kernel_rfl) ?_;simp only[List.take_succ_cons,List.take_zero,List.drop_succ_cons,List.drop_zero]
  repeat (go_big_quiet_step (fail))
  refine wpQuiet_nil ?_;refine wpN_sp _ rfl (by kernel_rfl) (spAt_newS 12 3 #[.int .i64 62,.int .i64 (176+(13+(M:Int))/256),.int .i64 ((13+(M:Int))%256),.int .i64 (pa/256),.int .i64 (pa%256),.int .i64 193,.int .i64 0,.int .i64 0,.int .i64 (d/16),.int .i64 (T0+8+4),.int .i64 (a/256%256),.int .i64 (a%256)] (Nat.zero_le _) (by intro w0;go_simp)) ?_;simp only[Act.put,List.setIfInBounds_toArray,List.set_cons_zero,List.set_cons_succ];refine wpN_sp _ rfl (by kernel_rfl) (spAt_val (f:=98) (args:= #[σ 25]) (by intro w0;go_simp) (fun p hd=>?_)) ?_
  ·obtain⟨g,hg,_,hblk⟩:=dep_at hd 25 rfl (by kernel_rfl)
   rw[hg];exact HTX.out _ _ (ints_blk hblk (by rw[HFN.out];rfl))
  simp only[Act.put,List.setIfInBounds_toArray,List.set_cons_zero,List.set_cons_succ];rw[hs26];refine Go.Proofs.YtibjkhepedfpiaaGreatDoor.Rg.wpN_take 3 (by kernel_rfl) (by kernel_rfl) (by kernel_rfl) ?_;simp only[List.take_succ_cons,List.take_zero,List.drop_succ_cons,List.drop_zero]
  repeat (go_big_quiet_step (fail))
  refine wpQuiet_nil ?_;refine wpN_sp _ rfl (by kernel_rfl) (spAt_val (f:=67) (args:= #[.string Y]) (by intro w0;go_simp) (fun p hd=>?_)) ?_
  ·exact kl _
  simp only[Act.put,List.setIfInBounds_toArray,List.set_cons_zero,List.set_cons_succ];rw[hs30];refine Go.Proofs.YtibjkhepedfpiaaGreatDoor.Rg.wpN_take 1 (by kernel_rfl) (by kernel_rfl) (by kernel_rfl) ?_;simp only[List.take_succ_cons,List.take_zero,List.drop_succ_cons,List.drop_zero]
  repeat (go_big_quiet_step (fail))
  refine wpQuiet_nil ?_;refine wpN_nil ?_;rintro w9 ⟨pq,rfl⟩ _;have hE:=(HB.out.px pq).be
  go_wp2_with fail
  go_ret;exact⟨rfl,hE⟩
end Go.Proofs.YtibjkhepedfpiaaGreatDoor.MpS
namespace Go.Proofs.YtibjkhepedfpiaaGreatDoor.MpT
open Go Go.RowKit Q Mem Rg Ap St BiP BiH SeA SeC SeE SeEq SeG SeI SeI2 SeP TmA TmB MpA MpC MpD DgC DgG MpR
set_option maxRecDepth 100000
end Go.Proofs.YtibjkhepedfpiaaGreatDoor.MpT
