import Derived.Test.YtdbpkhnmhddmmaaGreatDoorRnRcA
namespace Go.Proofs.YtdbpkhnmhddmmaaGreatDoor.RcB
open Go Go.RowKit Q Mem Rg Ap St BiH CrB Tab TmA TbM TbO TbP TbU TbV TbW BuB BuC BuI BuN BuO BuP BuS JnP JnA JnE TpW RcA
def Far (w:World) (v v':Value):Prop:= ∀i,v'.ownBlock=some i→v.ownBlock=some i∨w.heap.size≤i
structure RvS (w w':World) (B r gj gg gt gr gm:Nat) (v0 ov0 v ov:Value) (x:Rv):Prop where
 inn:RvIn w' B r gj gg gt gr gm v ov x
 k:Kept (footR r gj gg gt gr gm v0 ov0) w w'
 fv:Far w v0 v
 fo:Far w ov0 ov
theorem far_at {w:World} {v v':Value} (h:Far w v v') {i:Nat} (hi:i<w.heap.size) (e:v'.ownBlock=some i):v.ownBlock=some i:=by
 rcases h i e with h|h
 ·exact h
 ·omega
theorem Far.refl (w:World) (v:Value):Far w v v:=fun _ e=>Or.inl e
theorem Far.trans {w w1:World} {a b c:Value} (h:Far w a b) (k:Far w1 b c) (hw:w.heap.size≤w1.heap.size):Far w a c:=fun i e=>(k i e).elim (fun e=>h i e) (fun e=>Or.inr (Nat.le_trans hw e))
theorem far_to {w:World} {a b:Value} (h:far w a b):Far w a b:=fun i e=>by
 rcases h with h|⟨j,h,hj⟩
 ·exact Or.inl (h▸e)
 ·rw[h]at e;injection e with e;subst e;exact Or.inr hj
theorem far_nil (w:World) (a:Value):Far w a (.slice none 0 0):=fun _ e=>by cases e
section
variable {w w1 w':World} {B r gj gg gt gr gm:Nat} {v0 ov0 v v' ov ov':Value} {x x':Rv}
theorem RvS.sub (h:RvS w w' B r gj gg gt gr gm v0 ov0 v ov x) (i:Nat) (hi:i<w.heap.size) (e:footR r gj gg gt gr gm v ov i):footR r gj gg gt gr gm v0 ov0 i:=by
 rcases e with e|e|e|e|e
 ·exact Or.inl e
 ·exact Or.inr (Or.inl e)
 ·refine Or.inr (Or.inr (Or.inl ?_))
  rcases e with e|e|e|e
  ·exact Or.inl e
  ·exact Or.inr (Or.inl e)
  ·exact Or.inr (Or.inr (Or.inl e))
  ·exact Or.inr (Or.inr (Or.inr (far_at h.fv hi e)))
 ·exact Or.inr (Or.inr (Or.inr (Or.inl e)))
 ·exact Or.inr (Or.inr (Or.inr (Or.inr (far_at h.fo hi e))))
theorem RvS.trans (h:RvS w w1 B r gj gg gt gr gm v0 ov0 v ov x) (k:RvS w1 w' B r gj gg gt gr gm v ov v' ov' x'):RvS w w' B r gj gg gt gr gm v0 ov0 v' ov' x':=
 ⟨k.inn,h.k.trans k.k h.sub,Far.trans h.fv k.fv h.k.size,Far.trans h.fo k.fo h.k.size⟩
theorem RvS.refl (h:RvIn w B r gj gg gt gr gm v ov x):RvS w w B r gj gg gt gr gm v ov v ov x:=⟨h,Kept.refl _ _,Far.refl _ _,Far.refl _ _⟩
theorem s_below (h:RvIn w B r gj gg gt gr gm v ov x) (k:Below w.heap.size w w'):RvS w w' B r gj gg gt gr gm v ov v ov x:=⟨h.below k,kept_below _ k,Far.refl _ _,Far.refl _ _⟩
theorem s_ga {S':Tb} {n':Nat} (h:RvIn w B r gj gg gt gr gm v ov x) (hg:GaA w' B gg gt gr v' S' x.mac n') (k:Kept (footG gg gt gr v) w w') (f:far w v v'):RvS w w' B r gj gg gt gr gm v ov v' ov {x with S:=S',n:=n'}:=
 ⟨h.ga_step hg k,k.mono (fun _ _ e=>Or.inr (Or.inr (Or.inl e))),far_to f,Far.refl _ _⟩
theorem s_m {m':Aw.M} (h:RvIn w B r gj gg gt gr gm v ov x) (t:AwB.Turned w w' gm m'):RvS w w' B r gj gg gt gr gm v ov v ov {x with m:=m'}:=
 ⟨h.m_step t,kept_grown t.only (fun _ e=>by injection e with e;exact Or.inr (Or.inr (Or.inr (Or.inl e.symm)))),Far.refl _ _,Far.refl _ _⟩
theorem s_j {j':Jn} (h:RvIn w B r gj gg gt gr gm v ov x) (t:JnOk w w' gj j'):RvS w w' B r gj gg gt gr gm v ov v ov {x with j:=j'}:=
 ⟨h.j_step t,t.k.mono (fun _ _ e=>Or.inr (Or.inl e)),Far.refl _ _,Far.refl _ _⟩
theorem s_box {y:Rv} (h:RvIn w B r gj gg gt gr gm v ov x) (hb:Blk w' r 82 (rcV y gj gg gm ov)) (k:Kept (fun i=>i=r) w w') (e1:y.j=x.j) (e2:y.S=x.S) (e3:y.mac=x.mac) (e4:y.n=x.n) (e5:y.m=x.m) (e6:y.out=x.out):RvS w w' B r gj gg gt gr gm v ov v ov y:=
 ⟨h.box_step hb k e1 e2 e3 e4 e5 e6,k.mono (fun _ _ e=>Or.inl e),Far.refl _ _,Far.refl _ _⟩
theorem s_end (hk:RvIn w' B r gj gg gt gr gm (.slice none 0 0) ov' x'∧Kept (footR r gj gg gt gr gm v ov) w w'∧far w ov ov'):RvS w w' B r gj gg gt gr gm v ov (.slice none 0 0) ov' x':=⟨hk.1,hk.2.1,far_nil _ _,far_to hk.2.2⟩
theorem kc (w:World) (r i:Nat) (u:Value):Kept (fun i=>i=r) w (w.setCell ⟨r,i,none⟩ u):=kept_set rfl
end
theorem blk_far {V V':World} {F:Nat→Prop} {g:Nat} {t:TypeId} {cs:Array Value} (h:Blk V g t cs) (k:Kept F V V') (hn: ¬F g):Blk V' g t cs:=(k.block g (Blk.lt h) hn).trans h
theorem wakes_inv {x:Rv} (h:x.m.Inv):x.wakes.m.Inv:=by
 unfold Rv.wakes;dsimp only
 split
 ·exact Aw.reset_inv _ h
 ·exact h
theorem pre_is {x:Rv} (C:Nat→List UInt8) (hi:x.m.Inv) (hok:Ok x.S):
 (x.pre C).m.Inv∧Ok (x.pre C).S∧(x.pre C).S.st.length≤x.S.st.length∧(x.pre C).S.R=x.S.R∧(x.pre C).n≤x.n∧(x.pre C).mac=x.mac∧(x.pre C).frames≤x.frames+1∧(x.pre C).failed≤x.failed+1∧(x.pre C).out.length≤x.out.length+195584∧(x.pre C).wrong=x.wrong:=by
 have hw:=wakes_inv hi;unfold Rv.pre
 split
 ·refine⟨hw,LaB.empty_ok hok.R hok.R0,Nat.zero_le _,rfl,Nat.zero_le _,rfl,Nat.le_refl _,?_,?_,rfl⟩
  ·show(if 0<cntF x.S x.S.R then x.failed+1 else x.failed)≤x.failed+1
   split<;>omega
  ·show(x.out++txL x.S C).length≤x.out.length+195584
   have:=txL_len hok C;rw[List.length_append];omega
 ·exact⟨hw,hok,Nat.le_refl _,rfl,Nat.le_refl _,rfl,Nat.le_succ _,Nat.le_succ _,Nat.le_add_right _ _,rfl⟩
set_option maxRecDepth 100000
set_option maxHeartbeats 3200000 in
theorem rtake_any (w:World) (B r gj gg gt gr gm:Nat) (v ov:Value) (x:Rv) (s:ByteArray) (C D:Nat→List UInt8) (h:RvIn w B r gj gg gt gr gm v ov x) (hT:Tab 4 w) (hG:4<B) (hi:x.m.Inv) (hs:s.size≤1099511627776) (c1:x.sec≤1000000000) (c2:x.wrong≤1000000000) (c3:x.frames≤900000000) (c4:x.failed≤900000000) (c5:x.out.length≤700000) (c6:x.n≤900000)
 (hok:Ok x.S) (hst:x.S.st.length≤80000) (hR:x.S.R=256)
 (hC:tmE s=0→(x.m.state=2→x.always=true)→x.wakes.early=true→ ∀q,q<x.S.R→RowOf x.S q (C q))
 (hD:tmE s=0→(x.m.state=2→x.always=true)→((x.pre C).hears s).last s=true→ ∀q,q<256→RowOf (tkT (x.pre C).S x.mac s) q (D q)):
 Calls Tryz.prog 51 #[.pointer (some ⟨r,0,none⟩),.string s] w fun e w'=>e= .returned (.tuple #[])∧ ∃v' ov',RvS w w' B r gj gg gt gr gm v ov v' ov' (x.takeR s C D):=by
 have kt:=BuB.times_any s w hT hs;have HI:=Lib.hid h;have iF: ∀(x0 x1 x2 x3 x4 x5:Value) (W:World),(Instr.field 44 (.agg #[x0,x1,x2,x3,x4,x5]) 1).run Tryz.prog W= .ok x1 W:=fun _ _ _ _ _ _ _=>by kernel_rfl
 have HIB:=Lib.hid (show B≤w.heap.size from Nat.le_trans h.rb (Nat.le_of_lt (Blk.lt h.box)));have HIA:=Lib.hid h.ge;have HG:=Lib.hid hG;by_cases hE:tmE s=0
 case neg=>
  have HX:=Lib.hid (show x.takeR s C D={x with wrong:=x.wrong+1}from if_pos hE);rw[HX.out];obtain⟨E,hEe⟩: ∃E,tmE s=E:=⟨_,rfl⟩;obtain⟨⟨de,ta,fr,at_⟩,hTT⟩: ∃T,tmT s=T:=⟨_,rfl⟩;rw[hEe]at kt hE;rw[hTT]at kt;unfold Ti.vals at kt;dsimp only at kt;have t1:(E !=0)=true:=by simpa using hE
  have t1':(E==0)=false:=by simpa using hE
  have f0:(x.wrong:Int)≤1000000000:=by omega
  have f1:(0:Int)≤(x.wrong:Int):=Int.natCast_nonneg _;clear h hT hG hi hs c1 c2 c3 c4 c5 c6 hok hst hR hC hD hEe hTT hE HX
  go_enter Tryz.func51,Tryz.ntmps51
  go_wp2_with fail
  (with_reducible refine(kt).mono ?_);rintro e1 W1 ⟨rfl,hb1⟩
  have H1:=Lib.hid ((s_below HI.out hb1).trans (s_below (HI.out.below hb1) ((Below.refl _ W1).alloc (Nat.le_refl _) (.cells #[.int .i64 de,.bool ta,.bool fr,.int .i64 at_] 106))));have hbx:Blk (W1.alloc (.cells #[.int .i64 de,.bool ta,.bool fr,.int .i64 at_] 106)) r 82 #[.bool x.always,.pointer (some ⟨gj,0,none⟩),.pointer (some ⟨gg,0,none⟩),.pointer (some ⟨gm,0,none⟩),.int .i64 (x.sec:Int),.int .i64 (x.wrong:Int),.int .i64 (x.frames:Int),.int .i64 (x.failed:Int),.int .i64 0,.int .i64 0,.int .i64 0,.int .i64 0,.int .i64 0,.int .i64 0,.int .i64 0,.int .i64 0,ov]:=H1.out.inn.box;have c5:=Blk.cell hbx 5 (v:= .int .i64 (x.wrong:Int)) rfl;have z5:=Blk.frozen hbx 5;have b5:=Blk.set_ hbx 5 (.int .i64 ((x.wrong:Int)+1));have H2:=Lib.hid (H1.out.trans (s_box (y:={x with wrong:=x.wrong+1}) H1.out.inn b5 (kc _ r 5 _) rfl rfl rfl rfl rfl rfl));clear kt hb1 hbx b5 H1 HI
  go_wp2_with fail
  refine bodyPost_ret (results_none rfl _ _ _) rfl ?_;exact⟨rfl,v,ov,H2.out⟩
 have hpi:=pre_is C hi hok;have hwi:=wakes_inv hi;obtain⟨y0,hy0⟩: ∃y,x.takeR s C D=y:=⟨_,rfl⟩;have HX:Hid (y0=if x.m.state=2∧x.always=false then {x with sec:=x.sec+1}else if((x.pre C).hears s).last s then(((x.pre C).hears s).gets s).endR D else((x.pre C).hears s).gets s):=Lib.hid (by rw[←hy0];unfold Rv.takeR;rw[if_neg (fun e=>e hE)]);rw[hy0];obtain⟨⟨de,ta,fr,at_⟩,hTT⟩: ∃T,tmT s=T:=⟨_,rfl⟩;have HTT:=Lib.hid hTT;rw[hE,hTT]at kt;unfold Ti.vals at kt;dsimp only at kt;have HT:=Lib.hid hT;have HSS:=Lib.hid hs;have HC:=Lib.hid (hC hE);have HD:=Lib.hid (hD hE);have HN:=Lib.hid (show x.m.Inv∧Ok x.S∧x.S.st.length≤80000∧x.S.R=256∧(x.sec≤1000000000∧x.wrong≤1000000000∧x.frames≤900000000∧x.failed≤900000000∧x.out.length≤700000∧x.n≤900000)from⟨hi,hok,hst,hR,c1,c2,c3,c4,c5,c6⟩);have HPI:=Lib.hid hpi;have HWI:=Lib.hid hwi;have f0:(x.sec:Int)≤1000000000:=by omega
 have f1:(0:Int)≤(x.sec:Int):=Int.natCast_nonneg _;clear h hT hG hi hs c1 c2 c3 c4 c5 c6 hok hst hR hC hD hTT hE hpi hwi hy0
 go_enter Tryz.func51,Tryz.ntmps51
 go_wp2_with fail
 (with_reducible refine(kt).mono ?_);rintro e1 W1 ⟨rfl,hb1⟩
 have H1:=Lib.hid ((s_below HI.out hb1).trans (s_below (HI.out.below hb1) ((Below.refl _ W1).alloc (Nat.le_refl _) (.cells #[.int .i64 de,.bool ta,.bool fr,.int .i64 at_] 106))));have hbx:Blk (W1.alloc (.cells #[.int .i64 de,.bool ta,.bool fr,.int .i64 at_] 106)) r 82 #[.bool (x).always,.pointer (some ⟨gj,0,none⟩),.pointer (some ⟨gg,0,none⟩),.pointer (some ⟨gm,0,none⟩),.int .i64 ((x).sec:Int),.int .i64 ((x).wrong:Int),.int .i64 ((x).frames:Int),.int .i64 ((x).failed:Int),.int .i64 0,.int .i64 0,.int .i64 0,.int .i64 0,.int .i64 0,.int .i64 0,.int .i64 0,.int .i64 0,ov]:=H1.out.inn.box;have c4:=Blk.cell hbx 4 (v:= .int .i64 (x.sec:Int)) rfl;have z4:=Blk.frozen hbx 4;have b4:=Blk.set_ hbx 4 (.int .i64 ((x.sec:Int)+1));have H2:=Lib.hid (H1.out.trans (s_box (y:={x with sec:=x.sec+1}) H1.out.inn b4 (kc _ r 4 _) rfl rfl rfl rfl rfl rfl));have T1:=Blk.new W1 106 #[.int .i64 de,.bool ta,.bool fr,.int .i64 at_];have T2:=Lib.hid (blk_far T1 (kc _ r 4 (.int .i64 ((x.sec:Int)+1))) (fun e=>absurd (Tyb.uniq (tyb_blk T1) (e▸tyb_blk hbx)) (by decide)));have SB2:=Lib.hid (H2.out.k.size);clear kt hbx b4 H1 HI T1
 go_upto_region 4 with fail
 refine wp_gen (fun V=>RvS w V B r gj gg gt gr gm v ov v ov {x with sec:=x.sec+1}∧Blk V W1.heap.size 106 #[.int .i64 de,.bool ta,.bool fr,.int .i64 at_]) ⟨H2.out,T2.out⟩ ?_;rintro V ⟨hV,hTB⟩;have HV:=Lib.hid hV;have HTB:=Lib.hid hTB;obtain⟨tb,htb⟩: ∃tb,W1.heap.size=tb:=⟨_,rfl⟩;rw[htb]at HTB ⊢;clear hV hTB htb H2 T2 SB2 c4 z4 hb1;have m3:=Blk.cell HV.out.inn.box 3 (v:= .pointer (some ⟨gm,0,none⟩)) rfl;have m0:=Blk.cell HV.out.inn.box 0 (v:= .bool x.always) rfl;have kaw:=AwB.awake_any x.m gm V HV.out.inn.m;by_cases h2:x.m.state=2
 (have t2:(x.m.state !=2)=false:=by rw[h2];rfl
  rw[t2]at kaw
  cases hal:x.always)
 (rw[hal]at m0
  have HX2:=Lib.hid (HX.out.trans (if_pos ⟨h2,hal⟩));clear HX HTT HC HD HN HPI HWI
  go_wp2_with fail
  (with_reducible refine(kaw).mono ?_);rintro e1 V1 ⟨rfl,rfl⟩
  go_wp2_with fail
  refine bodyPost_ret (results_none rfl _ _ _) rfl ?_;exact⟨rfl,v,ov,by rw[HX2.out];exact HV.out⟩)
 (rw[hal]at m0
  have HX2:=Lib.hid (HX.out.trans (if_neg (fun e=>by have:=hal.symm.trans e.2;cases this)));have HCC:=Lib.hid (HC.out (fun _=>hal));have HDD:=Lib.hid (HD.out (fun _=>hal));have kre:=AwB.reset_any x.m gm V HV.out.inn.m;have HWS:=Lib.hid (show({x with sec:=x.sec+1,m:=x.m.reset}:Rv)=x.wakes from by unfold Rv.wakes;rw[if_pos h2]);clear HX HC HD
  go_wp2_with fail
  (with_reducible refine(kaw).mono ?_);rintro e1 V1 ⟨rfl,rfl⟩
  go_wp2_with fail
  (with_reducible refine(kaw).mono ?_);rintro e1 V1 ⟨rfl,rfl⟩
  go_wp2_with fail
  (with_reducible refine(kre).mono ?_);rintro e1 V2 ⟨rfl,ht2⟩
  have hV2:=HV.out.trans (s_m HV.out.inn ht2);have HV2:Hid (RvS w V2 B r gj gg gt gr gm v ov v ov x.wakes):=Lib.hid (by rw[←HWS.out];exact hV2);have HTB2:=Lib.hid (blk_far HTB.out (kept_grown (F:=fun i=>i=gm) ht2.only (fun _ e=>by injection e with e;exact e.symm)) (fun e=>absurd (Tyb.uniq (tyb_blk HTB.out) (e▸tyb_blk (show Blk V gm 96 _ from HV.out.inn.m))) (by decide)));clear kaw kre ht2 hV2 HWS m3 m0 HV HTB hal h2 t2
  go_upto_region 7 with fail
  refine wp_gen (fun U=>RvS w U B r gj gg gt gr gm v ov v ov x.wakes∧Blk U tb 106 #[.int .i64 de,.bool ta,.bool fr,.int .i64 at_]) ⟨HV2.out,HTB2.out⟩ ?_;clear HV2 HTB2
  rotate_left)
 (have t2:(x.m.state !=2)=true:=by simpa using h2
  rw[t2]at kaw;have HX2:=Lib.hid (HX.out.trans (if_neg (fun e=>h2 e.1)));have HCC:=Lib.hid (HC.out (fun e=>absurd e h2));have HDD:=Lib.hid (HD.out (fun e=>absurd e h2));have HV2:Hid (RvS w V B r gj gg gt gr gm v ov v ov x.wakes):=Lib.hid (by rw[←(show({x with sec:=x.sec+1}:Rv)=x.wakes from by unfold Rv.wakes;rw[if_neg h2])];exact HV.out);have HTB2:=HTB;clear HX HC HD
  go_wp2_with fail
  (with_reducible refine(kaw).mono ?_);rintro e1 V1 ⟨rfl,rfl⟩
  go_wp2_with fail
  (with_reducible refine(kaw).mono ?_);rintro e1 V1 ⟨rfl,rfl⟩
  clear kaw m3 m0 HV h2 t2 HTB
  go_upto_region 7 with fail
  refine wp_gen (fun U=>RvS w U B r gj gg gt gr gm v ov v ov x.wakes∧Blk U tb 106 #[.int .i64 de,.bool ta,.bool fr,.int .i64 at_]) ⟨HV2.out,HTB2.out⟩ ?_;clear HV2 HTB2
  skip)
 all_goals (
  rintro U ⟨hU,hTU⟩;have HV2:=Lib.hid hU;have HTB2:=Lib.hid hTU;clear hU hTU;obtain⟨y,hy⟩: ∃y,x.wakes=y:=⟨_,rfl⟩;have HY:=Lib.hid hy;rw[hy]at HV2 HCC HWI;clear hy;have m3:=Blk.cell HV2.out.inn.box 3 (v:= .pointer (some ⟨gm,0,none⟩)) rfl;have kst:=AwC.stat_any y.m gm U HV2.out.inn.m;unfold AwC.stat at kst
  go_wp2_with fail
  (with_reducible refine(kst).mono ?_);rintro e1 W3 ⟨rfl,hb3⟩
  have H3:=Lib.hid (HV2.out.trans (s_below HV2.out.inn hb3));have T3:=Lib.hid (Blk.below HTB2.out hb3 (Blk.lt HTB2.out));clear kst m3 HV2 HTB2;have g2:=Blk.cell H3.out.inn.box 2 (v:= .pointer (some ⟨gg,0,none⟩)) rfl;by_cases h4:y.m.state=4
  (have t4:(y.m.state !=4)=false:=by rw[h4];rfl
   have HZY:=Lib.hid (show x.pre C=y from by unfold Rv.pre;rw[HY.out,show y.early=false from by unfold Rv.early;rw[t4];rfl];rfl);clear h4 HCC HWI
   go_upto_region 9 with fail
   refine wp_gen (fun U=> ∃v3 o3,RvS w U B r gj gg gt gr gm v ov v3 o3 (x.pre C)∧Blk U tb 106 #[.int .i64 de,.bool ta,.bool fr,.int .i64 at_]) ⟨_,_,by rw[HZY.out];exact H3.out,T3.out⟩ ?_;clear H3 T3 HZY HY t4;clear g2
   rotate_left)
  (have t4:(y.m.state !=4)=true:=by simpa using h4
   have ktk:=taken_any H3.out.inn.ga;by_cases hn:0<y.n)
  (have t5:decide ((0:Int)<(y.n:Int))=true:=decide_eq_true (by omega)
   have t5':decide (0<y.n)=true:=decide_eq_true hn;have HEY:=Lib.hid (show y.early=true from by unfold Rv.early;rw[t4,t5'];rfl);have HZY:=Lib.hid (show x.pre C=y.endR C from by unfold Rv.pre;rw[HY.out,if_pos HEY.out]);have hSy:y.S=x.S∧y.frames=x.frames∧y.failed=x.failed∧y.out=x.out:=by rw[←HY.out];exact⟨rfl,rfl,rfl,rfl⟩
   have ken:=rend_any W3 B r gj gg gt gr gm v ov y C H3.out.inn (by rw[hSy.1];exact HN.out.2.1) (by rw[hSy.1];exact HCC.out HEY.out) (by rw[hSy.2.1];have:=HN.out.2.2.2.2.2.2.1;omega) (by rw[hSy.2.2.1];have:=HN.out.2.2.2.2.2.2.2.1;omega) (by rw[hSy.2.2.2];have:=HN.out.2.2.2.2.2.2.2.2.1;omega);clear h4 HCC HWI hSy hn
   go_wp2_with fail
   (with_reducible refine(ktk).mono ?_);rintro e1 W4 ⟨rfl,rfl⟩
   clear ktk
   go_wp2_with fail
   (with_reducible refine(ken).mono ?_);rintro e1 W5 ⟨rfl,ov5,hk5⟩
   have hS5:=s_end hk5;have H5:=Lib.hid (H3.out.trans hS5);have T5:=Lib.hid (blk_far T3.out hS5.k (H3.out.inn.off (tyb_blk T3.out) (by decide) (by decide) (by decide) (by decide) (by decide) (by decide) (by decide) (by decide)));clear ken hk5 hS5 g2 H3 T3 t5 t5' HEY
   go_upto_region 9 with fail
   refine wp_gen (fun U=> ∃v3 o3,RvS w U B r gj gg gt gr gm v ov v3 o3 (x.pre C)∧Blk U tb 106 #[.int .i64 de,.bool ta,.bool fr,.int .i64 at_]) ⟨_,_,by rw[HZY.out];exact H5.out,T5.out⟩ ?_;clear H5 T5 HZY HY t4
   rotate_left)
  (have t5:decide ((0:Int)<(y.n:Int))=false:=decide_eq_false (by omega)
   have t5':decide (0<y.n)=false:=decide_eq_false hn;have HZY:=Lib.hid (show x.pre C=y from by unfold Rv.pre;rw[HY.out,show y.early=false from by unfold Rv.early;rw[t4,t5'];rfl];rfl);clear h4 HCC HWI hn
   go_wp2_with fail
   (with_reducible refine(ktk).mono ?_);rintro e1 W4 ⟨rfl,rfl⟩
   clear ktk g2
   go_upto_region 9 with fail
   refine wp_gen (fun U=> ∃v3 o3,RvS w U B r gj gg gt gr gm v ov v3 o3 (x.pre C)∧Blk U tb 106 #[.int .i64 de,.bool ta,.bool fr,.int .i64 at_]) ⟨_,_,by rw[HZY.out];exact H3.out,T3.out⟩ ?_;clear H3 T3 HZY HY t4;clear t5 t5'
   skip)
  all_goals (
   rintro U2 ⟨v3,o3,hU2,hTU⟩;have HTU:=Lib.hid hTU;obtain⟨z,hz⟩: ∃z,x.pre C=z:=⟨_,rfl⟩;have HZ:=Lib.hid HPI.out;have HZH:=Lib.hid hU2;rw[hz]at HZ HDD HX2 HZH;clear hz hU2 hTU;have m3:=fun q=>Blk.cell (blk_ext HZH.out.inn.box q) 3 (v:= .pointer (some ⟨gm,0,none⟩)) rfl;have q0:=fun q=>Blk.cell (blk_ext HTU.out q) 0 (v:= .int .i64 de) rfl;have q1:=fun q=>Blk.cell (blk_ext HTU.out q) 1 (v:= .bool ta) rfl;have q2:=fun q=>Blk.cell (blk_ext HTU.out q) 2 (v:= .bool fr) rfl;have q3:=fun q=>Blk.cell (blk_ext HTU.out q) 3 (v:= .int .i64 at_) rfl
   go_wp2_with fail
   refine Go.Proofs.YtdbpkhnmhddmmaaGreatDoor.Q.region_ext_tail 5 (by kernel_rfl) (by kernel_rfl) ?_;simp only[List.take_succ_cons,List.take_zero,List.drop_succ_cons,List.drop_zero]
   repeat (go_big_quiet_step (fail))
   refine wpQuiet_nil ?_;rintro w9 ⟨pq,rfl⟩;have HX9:=Lib.hid (HZH.out.trans (s_below HZH.out.inn (below_ext _ pq)));have kh:=AwD.heard_any z.m gm de at_ ta fr _ HX9.out.inn.m HZ.out.1;clear m3 q0 q1 q2 q3 HZH
   go_wp2_with fail
   (with_reducible refine(kh).mono ?_);rintro e1 V4 ⟨rfl,ht4⟩
   have H4:=Lib.hid (HX9.out.trans (s_m HX9.out.inn ht4));have g2:=Blk.cell H4.out.inn.box 2 (v:= .pointer (some ⟨gg,0,none⟩)) rfl;have HTV:=Lib.hid (HT.out.below (H4.out.k.be (B:=B) HIB.out (fun i e=>(HIA.out i e).1)) HG.out);have hNx:=HN.out.2.2.2;have hz4:z.S.R=256:=HZ.out.2.2.2.1.trans hNx.1;have hz3:z.S.st.length≤80000:=Nat.le_trans HZ.out.2.2.1 HN.out.2.2.1;have kg:=BuS.take_any V4 B gg gt gr _ z.S z.mac z.n s H4.out.inn.ga HZ.out.2.1 (by omega) hz4 HSS.out (by have:=HZ.out.2.2.2.2.1;omega) HTV.out;have HTK:=Lib.hid (BuS.tk_ok HZ.out.2.1 (by omega) z.mac s);clear kh ht4 HX9 HTV
   have HGS:=Lib.hid (show ∀(eG:Int) (fG:Bool),BuP.tkE z.S.R z.mac s=eG→BuP.tkF z.S.R z.mac s=fG→y0=if decide (eG=0)&&fG then(Rv.mk z.always z.j (tkT z.S z.mac s) z.mac (tkN z.S.R z.mac s z.n) (z.m.heard de fr at_) z.sec (if eG=0 then z.wrong else z.wrong+1) z.frames z.failed z.out).endR D else Rv.mk z.always z.j (tkT z.S z.mac s) z.mac (tkN z.S.R z.mac s z.n) (z.m.heard de fr at_) z.sec (if eG=0 then z.wrong else z.wrong+1) z.frames z.failed z.out from fun eG fG h1 h2=>by
    subst h1 h2;rw[HX2.out];unfold Rv.last Rv.gets Rv.hears;rw[HTT.out])
   have HDL:=Lib.hid (show BuP.tkE z.S.R z.mac s=0→BuP.tkF z.S.R z.mac s=true→ ∀q,q<(tkT z.S z.mac s).R→RowOf (tkT z.S z.mac s) q (D q)from fun h1 h2 q hq=>by
    have h3:=HDD.out (by unfold Rv.last Rv.hears;dsimp only;rw[h1,h2];rfl) q (by have:=HTK.out.2.2;omega);rw[←HZ.out.2.2.2.2.2.1]at h3;exact h3)
   go_wp2_with fail
   (with_reducible refine(kg).mono ?_);rintro e1 V5 hk
   obtain⟨he,⟨v5,hga,hf5⟩,hk5⟩:=hk;have H5:=Lib.hid (H4.out.trans (s_ga H4.out.inn hga hk5 hf5));obtain⟨eG,heG⟩: ∃e,BuP.tkE z.S.R z.mac s=e:=⟨_,rfl⟩;obtain⟨fG,hfG⟩: ∃e,BuP.tkF z.S.R z.mac s=e:=⟨_,rfl⟩;have HG5:=Lib.hid (HGS.out eG fG heG hfG);rw[heG,hfG]at he HDL;subst he;clear kg hga hf5 hk5 HGS HDD HX2 g2 H4 heG hfG;have w0:(z.wrong:Int)≤1000000000:=by have:=HZ.out.2.2.2.2.2.2.2.2.2;have:=hNx.2.2.1;omega
   have w1:(0:Int)≤(z.wrong:Int):=Int.natCast_nonneg _;by_cases hG0:eG=0
   case neg=>
    have t6:(eG !=0)=true:=by simpa using hG0
    have t6':(eG==0)=false:=by simpa using hG0
    have HY0:=Lib.hid (HG5.out.trans (by rw[decide_eq_false hG0,Bool.false_and,if_neg Bool.false_ne_true,if_neg hG0]:_=(Rv.mk z.always z.j (tkT z.S z.mac s) z.mac (tkN z.S.R z.mac s z.n) (z.m.heard de fr at_) z.sec (z.wrong+1) z.frames z.failed z.out)));have hbx:Blk V5 r 82 #[.bool (z).always,.pointer (some ⟨gj,0,none⟩),.pointer (some ⟨gg,0,none⟩),.pointer (some ⟨gm,0,none⟩),.int .i64 ((z).sec:Int),.int .i64 ((z).wrong:Int),.int .i64 ((z).frames:Int),.int .i64 ((z).failed:Int),.int .i64 0,.int .i64 0,.int .i64 0,.int .i64 0,.int .i64 0,.int .i64 0,.int .i64 0,.int .i64 0,o3]:=H5.out.inn.box;have d5:=Blk.cell hbx 5 (v:= .int .i64 (z.wrong:Int)) rfl;have y5:=Blk.frozen hbx 5;have b5:=Blk.set_ hbx 5 (.int .i64 ((z.wrong:Int)+1));have H6:=Lib.hid (H5.out.trans (s_box (y:=(Rv.mk z.always z.j (tkT z.S z.mac s) z.mac (tkN z.S.R z.mac s z.n) (z.m.heard de fr at_) z.sec (z.wrong+1) z.frames z.failed z.out)) H5.out.inn b5 (kc _ r 5 _) rfl rfl rfl rfl rfl rfl));clear hbx b5 HG5
    go_wp2_with fail
    go_end0
    exact⟨rfl,_,_,by rw[HY0.out];exact H6.out⟩
   case pos=>
    subst hG0
    cases fG with
    |false=>
     have HY0:=Lib.hid (HG5.out.trans (by rw[Bool.and_false,if_neg Bool.false_ne_true,if_pos rfl]:_=(Rv.mk z.always z.j (tkT z.S z.mac s) z.mac (tkN z.S.R z.mac s z.n) (z.m.heard de fr at_) z.sec z.wrong z.frames z.failed z.out)));clear HG5
     go_wp2_with fail
     go_end0
     exact⟨rfl,_,_,by rw[HY0.out];exact H5.out⟩
    |true=>
     have HY0:=Lib.hid (HG5.out.trans (by rw[decide_eq_true (rfl:(0:Int)=0),Bool.true_and,if_pos rfl,if_pos rfl]:_=(Rv.mk z.always z.j (tkT z.S z.mac s) z.mac (tkN z.S.R z.mac s z.n) (z.m.heard de fr at_) z.sec z.wrong z.frames z.failed z.out).endR D));have ken2:=rend_any V5 B r gj gg gt gr gm _ _ (Rv.mk z.always z.j (tkT z.S z.mac s) z.mac (tkN z.S.R z.mac s z.n) (z.m.heard de fr at_) z.sec z.wrong z.frames z.failed z.out) D H5.out.inn HTK.out.1 (HDL.out rfl rfl) (by show z.frames≤1000000000;have:=HZ.out.2.2.2.2.2.2.1;have:=hNx.2.2.2.1;omega) (by show z.failed≤1000000000;have:=HZ.out.2.2.2.2.2.2.2.1;have:=hNx.2.2.2.2.1;omega) (by show z.out.length≤1000000;have:=HZ.out.2.2.2.2.2.2.2.2.1;have:=hNx.2.2.2.2.2.1;omega);clear HG5
     go_wp2_with fail
     (with_reducible refine(ken2).mono ?_);rintro e1 V6 ⟨rfl,ov6,hk6⟩
     have H6:=Lib.hid (H5.out.trans (s_end hk6));clear ken2 hk6
     go_wp2_with fail
     go_end0
     exact⟨rfl,_,_,by rw[HY0.out];exact H6.out⟩
   skip)
  skip)
end Go.Proofs.YtdbpkhnmhddmmaaGreatDoor.RcB
