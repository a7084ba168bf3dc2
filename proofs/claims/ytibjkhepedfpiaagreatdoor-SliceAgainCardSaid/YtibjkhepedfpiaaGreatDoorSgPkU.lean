import Derived.Test.YtibjkhepedfpiaaGreatDoorSgPkF
import Derived.Test.YtibjkhepedfpiaaGreatDoorSgPkN
import Derived.Laws.EntriesVeiled
import Derived.Test.YtibjkhepedfpiaaGreatDoorSgPkK
namespace Go.Proofs.YtibjkhepedfpiaaGreatDoor.BuA
open Go Go.RowKit Q Mem Rg Ap St Tab SeI
def fv (n:Nat):Value:= .func (.func n) #[] #[]
def isM (t:ByteArray):Bool:=decide (0<t.size∧at' t 0=62)
def isF (t:ByteArray):Bool:=decide (0<t.size∧at' t 0=120)
theorem not_both {t:ByteArray} (h:isM t=true):isF t=false:=by
 unfold isM at h;unfold isF;have:=of_decide_eq_true h;exact decide_eq_false (fun h2=>by omega)
set_option maxRecDepth 100000
theorem kinds_any (w:World):Calls Tryz.prog 94 #[] w fun e w'=>e= .returned (.slice (some ⟨w.heap.size,0,none⟩) 2 2)∧w'=w.alloc (.cells #[.func (.func 127) #[] #[],.func (.func 128) #[] #[],.func (.func 129) #[] #[],.func (.func 130) #[] #[],.func (.func 131) #[] #[],.func (.func 132) #[] #[],.func (.func 133) #[] #[],.func (.func 134) #[] #[]] 138):=by
 go_enter Tryz.func94,Tryz.ntmps94
 go_wp2_with fail
 go_ret;exact⟨rfl,rfl⟩
def KM:Array Value:= #[.func (.func 127) #[] #[],.func (.func 128) #[] #[],.func (.func 129) #[] #[],.func (.func 130) #[] #[]]
def KF:Array Value:= #[.func (.func 131) #[] #[],.func (.func 132) #[] #[],.func (.func 133) #[] #[],.func (.func 134) #[] #[]]
def KZ:Array Value:= #[.nilFunc,.nilFunc,.nilFunc,.nilFunc]
theorem find_m (t:ByteArray) (w:World) (h:isM t=true):Calls Tryz.prog 60 #[.string t] w fun e w'=>e= .returned (.tuple #[.agg KM,.bool true])∧Below w.heap.size w w':=by
 have kk:=fun V=>kinds_any V;have km:=fun V=>MpD.is_any t V;unfold isM at h;rw[h]at km;clear h;have HB:=Lib.hid (bk2 w 138 138 #[.nilFunc,.nilFunc,.nilFunc,.nilFunc] #[.func (.func 127) #[] #[],.func (.func 128) #[] #[],.func (.func 129) #[] #[],.func (.func 130) #[] #[],.func (.func 131) #[] #[],.func (.func 132) #[] #[],.func (.func 133) #[] #[],.func (.func 134) #[] #[]]);have k0:=Blk.cell (HB.out.nth 0 rfl) 0 (v:= .func (.func 127) #[] #[]) rfl;have k1:=Blk.cell (HB.out.nth 0 rfl) 1 (v:= .func (.func 128) #[] #[]) rfl;have k2:=Blk.cell (HB.out.nth 0 rfl) 2 (v:= .func (.func 129) #[] #[]) rfl;have k3:=Blk.cell (HB.out.nth 0 rfl) 3 (v:= .func (.func 130) #[] #[]) rfl;have k4:=Blk.cell (HB.out.nth 0 rfl) 4 (v:= .func (.func 131) #[] #[]) rfl;have k5:=Blk.cell (HB.out.nth 0 rfl) 5 (v:= .func (.func 132) #[] #[]) rfl;have k6:=Blk.cell (HB.out.nth 0 rfl) 6 (v:= .func (.func 133) #[] #[]) rfl;have k7:=Blk.cell (HB.out.nth 0 rfl) 7 (v:= .func (.func 134) #[] #[]) rfl
 go_enter Tryz.func60,Tryz.ntmps60
 go_wp2_with fail
 (with_reducible refine(kk _).mono ?_);rintro e1 W1 ⟨rfl,rfl⟩
 go_wp2_with fail
 refine wp_loop_rounds 3 ?_;rw[rounds_succ]
 go_wp2_with fail
 (with_reducible refine(km _).mono ?_);rintro e1 W2 ⟨rfl,rfl⟩
 have HB2:=Lib.hid (HB.out.newAt (w.heap.size+1+1) 138 #[.func (.func 127) #[] #[],.func (.func 128) #[] #[],.func (.func 129) #[] #[],.func (.func 130) #[] #[]] (by simp));have e0:=Blk.cell (HB2.out.nth 0 rfl) 0 (v:= .func (.func 127) #[] #[]) rfl;have e1:=Blk.cell (HB2.out.nth 0 rfl) 1 (v:= .func (.func 128) #[] #[]) rfl;have e2:=Blk.cell (HB2.out.nth 0 rfl) 2 (v:= .func (.func 129) #[] #[]) rfl;have e3:=Blk.cell (HB2.out.nth 0 rfl) 3 (v:= .func (.func 130) #[] #[]) rfl;clear HB k0 k1 k2 k3 k4 k5 k6 k7
 go_wp2_with (refine wpList_store_blk (g:=w.heap.size) (T:=138) (cs':= #[.func (.func 127) #[] #[],.func (.func 128) #[] #[],.func (.func 129) #[] #[],.func (.func 130) #[] #[]]) rfl 138 _ _ rfl rfl rfl (HB2.out.nth 2 rfl) (by kernel_rfl) (by kernel_rfl) (by kernel_rfl) (by kernel_rfl) ?_;intro W9 hW9 hg9 hz9)
 have hVE:=HB2.out.be.trans (below_of_only hg9 HB2.out.be.size (fun k hk=>by injection hk with hk;omega));exact bodyPost_ret (v:= .tuple #[.agg #[.func (.func 127) #[] #[],.func (.func 128) #[] #[],.func (.func 129) #[] #[],.func (.func 130) #[] #[]],.bool true]) (by refine res_row (fn:=Tryz.f60) (p:=2) (q:=3) rfl _ _ w.heap.size 138 _ (0,0) _ ?_ hW9 Tryz.underlying138 rfl (by kernel_rfl);rfl) rfl ⟨by rfl,hVE⟩
theorem find_f (t:ByteArray) (w:World) (h:isM t=false) (h2:isF t=true):Calls Tryz.prog 60 #[.string t] w fun e w'=>e= .returned (.tuple #[.agg KF,.bool true])∧Below w.heap.size w w':=by
 have kk:=fun V=>kinds_any V;have km:=fun V=>MpD.is_any t V;have kf:=fun V=>FcD.is_any t V;unfold isM at h;unfold isF at h2;rw[h]at km;rw[h2]at kf;clear h h2;have HB:=Lib.hid (bk2 w 138 138 #[.nilFunc,.nilFunc,.nilFunc,.nilFunc] #[.func (.func 127) #[] #[],.func (.func 128) #[] #[],.func (.func 129) #[] #[],.func (.func 130) #[] #[],.func (.func 131) #[] #[],.func (.func 132) #[] #[],.func (.func 133) #[] #[],.func (.func 134) #[] #[]]);have k0:=Blk.cell (HB.out.nth 0 rfl) 0 (v:= .func (.func 127) #[] #[]) rfl;have k1:=Blk.cell (HB.out.nth 0 rfl) 1 (v:= .func (.func 128) #[] #[]) rfl;have k2:=Blk.cell (HB.out.nth 0 rfl) 2 (v:= .func (.func 129) #[] #[]) rfl;have k3:=Blk.cell (HB.out.nth 0 rfl) 3 (v:= .func (.func 130) #[] #[]) rfl;have k4:=Blk.cell (HB.out.nth 0 rfl) 4 (v:= .func (.func 131) #[] #[]) rfl;have k5:=Blk.cell (HB.out.nth 0 rfl) 5 (v:= .func (.func 132) #[] #[]) rfl;have k6:=Blk.cell (HB.out.nth 0 rfl) 6 (v:= .func (.func 133) #[] #[]) rfl;have k7:=Blk.cell (HB.out.nth 0 rfl) 7 (v:= .func (.func 134) #[] #[]) rfl
 go_enter Tryz.func60,Tryz.ntmps60
 go_wp2_with fail
 (with_reducible refine(kk _).mono ?_);rintro e1 W1 ⟨rfl,rfl⟩
 go_wp2_with fail
 refine wp_loop_rounds 3 ?_;rw[rounds_succ]
 go_wp2_with fail
 (with_reducible refine(km _).mono ?_);rintro e1 W2 ⟨rfl,rfl⟩
 have HB2:=Lib.hid (HB.out.newAt (w.heap.size+1+1) 138 #[.func (.func 127) #[] #[],.func (.func 128) #[] #[],.func (.func 129) #[] #[],.func (.func 130) #[] #[]] (by simp));have e0:=Blk.cell (HB2.out.nth 1 rfl) 0 (v:= .func (.func 127) #[] #[]) rfl;have e1:=Blk.cell (HB2.out.nth 1 rfl) 1 (v:= .func (.func 128) #[] #[]) rfl;have e2:=Blk.cell (HB2.out.nth 1 rfl) 2 (v:= .func (.func 129) #[] #[]) rfl;have e3:=Blk.cell (HB2.out.nth 1 rfl) 3 (v:= .func (.func 130) #[] #[]) rfl;have e4:=Blk.cell (HB2.out.nth 1 rfl) 4 (v:= .func (.func 131) #[] #[]) rfl;have e5:=Blk.cell (HB2.out.nth 1 rfl) 5 (v:= .func (.func 132) #[] #[]) rfl;have e6:=Blk.cell (HB2.out.nth 1 rfl) 6 (v:= .func (.func 133) #[] #[]) rfl;have e7:=Blk.cell (HB2.out.nth 1 rfl) 7 (v:= .func (.func 134) #[] #[]) rfl;clear HB k0 k1 k2 k3 k4 k5 k6 k7
 go_wp2_with fail
 rw[rounds_succ]
 go_wp2_with fail
 (with_reducible refine(kf _).mono ?_);rintro e1 W2 ⟨rfl,rfl⟩
 have HB3:=Lib.hid (HB2.out.newAt (w.heap.size+1+1+1) 138 #[.func (.func 131) #[] #[],.func (.func 132) #[] #[],.func (.func 133) #[] #[],.func (.func 134) #[] #[]] (by simp));clear e0 e1 e2 e3 e4 e5 e6 e7;have e0:=Blk.cell (HB3.out.nth 0 rfl) 0 (v:= .func (.func 131) #[] #[]) rfl;have e1:=Blk.cell (HB3.out.nth 0 rfl) 1 (v:= .func (.func 132) #[] #[]) rfl;have e2:=Blk.cell (HB3.out.nth 0 rfl) 2 (v:= .func (.func 133) #[] #[]) rfl;have e3:=Blk.cell (HB3.out.nth 0 rfl) 3 (v:= .func (.func 134) #[] #[]) rfl;clear HB2
 go_wp2_with (refine wpList_store_blk (g:=w.heap.size) (T:=138) (cs':= #[.func (.func 131) #[] #[],.func (.func 132) #[] #[],.func (.func 133) #[] #[],.func (.func 134) #[] #[]]) rfl 138 _ _ rfl rfl rfl (HB3.out.nth 3 rfl) (by kernel_rfl) (by kernel_rfl) (by kernel_rfl) (by kernel_rfl) ?_;intro W9 hW9 hg9 hz9)
 have hVE:=HB3.out.be.trans (below_of_only hg9 HB3.out.be.size (fun k hk=>by injection hk with hk;omega));exact bodyPost_ret (v:= .tuple #[.agg #[.func (.func 131) #[] #[],.func (.func 132) #[] #[],.func (.func 133) #[] #[],.func (.func 134) #[] #[]],.bool true]) (by refine res_row (fn:=Tryz.f60) (p:=2) (q:=3) rfl _ _ w.heap.size 138 _ (0,0) _ ?_ hW9 Tryz.underlying138 rfl (by kernel_rfl);rfl) rfl ⟨by rfl,hVE⟩
theorem find_z (t:ByteArray) (w:World) (h:isM t=false) (h2:isF t=false):Calls Tryz.prog 60 #[.string t] w fun e w'=>e= .returned (.tuple #[.agg KZ,.bool false])∧Below w.heap.size w w':=by
 have kk:=fun V=>kinds_any V;have km:=fun V=>MpD.is_any t V;have kf:=fun V=>FcD.is_any t V;unfold isM at h;unfold isF at h2;rw[h]at km;rw[h2]at kf;clear h h2;have HB:=Lib.hid (bk2 w 138 138 #[.nilFunc,.nilFunc,.nilFunc,.nilFunc] #[.func (.func 127) #[] #[],.func (.func 128) #[] #[],.func (.func 129) #[] #[],.func (.func 130) #[] #[],.func (.func 131) #[] #[],.func (.func 132) #[] #[],.func (.func 133) #[] #[],.func (.func 134) #[] #[]]);have k0:=Blk.cell (HB.out.nth 0 rfl) 0 (v:= .func (.func 127) #[] #[]) rfl;have k1:=Blk.cell (HB.out.nth 0 rfl) 1 (v:= .func (.func 128) #[] #[]) rfl;have k2:=Blk.cell (HB.out.nth 0 rfl) 2 (v:= .func (.func 129) #[] #[]) rfl;have k3:=Blk.cell (HB.out.nth 0 rfl) 3 (v:= .func (.func 130) #[] #[]) rfl;have k4:=Blk.cell (HB.out.nth 0 rfl) 4 (v:= .func (.func 131) #[] #[]) rfl;have k5:=Blk.cell (HB.out.nth 0 rfl) 5 (v:= .func (.func 132) #[] #[]) rfl;have k6:=Blk.cell (HB.out.nth 0 rfl) 6 (v:= .func (.func 133) #[] #[]) rfl;have k7:=Blk.cell (HB.out.nth 0 rfl) 7 (v:= .func (.func 134) #[] #[]) rfl
 go_enter Tryz.func60,Tryz.ntmps60
 go_wp2_with fail
 (with_reducible refine(kk _).mono ?_);rintro e1 W1 ⟨rfl,rfl⟩
 go_wp2_with fail
 refine wp_loop_rounds 3 ?_;rw[rounds_succ]
 go_wp2_with fail
 (with_reducible refine(km _).mono ?_);rintro e1 W2 ⟨rfl,rfl⟩
 have HB2:=Lib.hid (HB.out.newAt (w.heap.size+1+1) 138 #[.func (.func 127) #[] #[],.func (.func 128) #[] #[],.func (.func 129) #[] #[],.func (.func 130) #[] #[]] (by simp));have e0:=Blk.cell (HB2.out.nth 1 rfl) 0 (v:= .func (.func 127) #[] #[]) rfl;have e1:=Blk.cell (HB2.out.nth 1 rfl) 1 (v:= .func (.func 128) #[] #[]) rfl;have e2:=Blk.cell (HB2.out.nth 1 rfl) 2 (v:= .func (.func 129) #[] #[]) rfl;have e3:=Blk.cell (HB2.out.nth 1 rfl) 3 (v:= .func (.func 130) #[] #[]) rfl;have e4:=Blk.cell (HB2.out.nth 1 rfl) 4 (v:= .func (.func 131) #[] #[]) rfl;have e5:=Blk.cell (HB2.out.nth 1 rfl) 5 (v:= .func (.func 132) #[] #[]) rfl;have e6:=Blk.cell (HB2.out.nth 1 rfl) 6 (v:= .func (.func 133) #[] #[]) rfl;have e7:=Blk.cell (HB2.out.nth 1 rfl) 7 (v:= .func (.func 134) #[] #[]) rfl;clear HB k0 k1 k2 k3 k4 k5 k6 k7
 go_wp2_with fail
 rw[rounds_succ]
 go_wp2_with fail
 (with_reducible refine(kf _).mono ?_);rintro e1 W2 ⟨rfl,rfl⟩
 have HB3:=Lib.hid (HB2.out.newAt (w.heap.size+1+1+1) 138 #[.func (.func 131) #[] #[],.func (.func 132) #[] #[],.func (.func 133) #[] #[],.func (.func 134) #[] #[]] (by simp));clear e0 e1 e2 e3 e4 e5 e6 e7 HB2
 go_wp2_with fail
 rw[rounds_succ]
 go_wp2_with (refine wpList_store_blk (g:=w.heap.size) (T:=138) (cs':= #[.nilFunc,.nilFunc,.nilFunc,.nilFunc]) rfl 138 _ _ rfl rfl rfl (HB3.out.nth 3 rfl) (by kernel_rfl) (by kernel_rfl) (by kernel_rfl) (by kernel_rfl) ?_;intro W9 hW9 hg9 hz9)
 have hVE:=HB3.out.be.trans (below_of_only hg9 HB3.out.be.size (fun k hk=>by injection hk with hk;omega));exact bodyPost_ret (v:= .tuple #[.agg #[.nilFunc,.nilFunc,.nilFunc,.nilFunc],.bool false]) (by refine res_row (fn:=Tryz.f60) (p:=2) (q:=3) rfl _ _ w.heap.size 138 _ (0,0) _ ?_ hW9 Tryz.underlying138 rfl (by kernel_rfl);rfl) rfl ⟨by rfl,hVE⟩
end Go.Proofs.YtibjkhepedfpiaaGreatDoor.BuA
namespace Go.Proofs.YtibjkhepedfpiaaGreatDoor.BuB
open Go Go.RowKit Q Mem Rg Ap St Tab SeI TmA TmB BuA
noncomputable def tmE (t:ByteArray):Int:=if isM t then MpC.mdE t else if isF t then FcC.fdE t else 14
noncomputable def tmT (t:ByteArray):Ti:=if isM t then(MpC.mdP t).times else if isF t then(FcC.fdP t).times else zeroT
set_option maxRecDepth 100000
theorem gt_any (t:ByteArray) (w:World) (hs:t.size≤1099511627776):Calls Tryz.prog 128 #[.string t] w fun e w'=>e= .returned (.tuple #[.agg (MpC.mdP t).times.vals,.int .i64 (MpC.mdE t)])∧Below w.heap.size w w':=by
 have kd:=fun V=>MpC.mdec_any t V hs;obtain⟨c,hc⟩: ∃c,MpC.mdE t=c:=⟨_,rfl⟩;obtain⟨Q,hQ⟩: ∃Q,MpC.mdP t=Q:=⟨_,rfl⟩;rw[hc,hQ]at kd ⊢;clear hc hQ;obtain⟨ma,⟨de,ta,fr,at_⟩,te⟩:=Q;unfold MpA.Mp.vals at kd;unfold Ti.vals;dsimp only at kd ⊢;have HB:=Lib.hid (bk1 w 46 #[.int .i64 0,.bool false,.bool false,.int .i64 0])
 go_enter Tryz.func128,Tryz.ntmps128
 go_wp2_with fail
 (with_reducible refine(kd _).mono ?_);rintro e1 W1 ⟨rfl,hb1⟩
 have HB1:=Lib.hid ((HB.out.below hb1).new 189 #[.int .i64 ma,.int .i64 de,.bool ta,.bool fr,.int .i64 at_,.string te]);have hgw:=(HB.out.below hb1).lt 0 rfl;clear kd hb1 HB;have d0:=Blk.cell (HB1.out.nth 0 rfl) 0 (v:= .int .i64 ma) rfl;have d1:=Blk.cell (HB1.out.nth 0 rfl) 1 (v:= .int .i64 de) rfl;have d2:=Blk.cell (HB1.out.nth 0 rfl) 2 (v:= .bool ta) rfl;have d3:=Blk.cell (HB1.out.nth 0 rfl) 3 (v:= .bool fr) rfl;have d4:=Blk.cell (HB1.out.nth 0 rfl) 4 (v:= .int .i64 at_) rfl;have d5:=Blk.cell (HB1.out.nth 0 rfl) 5 (v:= .string te) rfl
 go_wp2_with (refine wpList_store_blk (g:=w.heap.size) (T:=46) (cs':= #[.int .i64 de,.bool ta,.bool fr,.int .i64 at_]) rfl 46 _ _ rfl rfl rfl (HB1.out.nth 1 rfl) (by kernel_rfl) (by kernel_rfl) (by kernel_rfl) (by kernel_rfl) ?_;intro W9 hW9 hg9 hz9)
 have hVE:=HB1.out.be.trans (below_of_only hg9 HB1.out.be.size (fun k hk=>by injection hk with hk;omega));exact bodyPost_ret (v:= .tuple #[.agg #[.int .i64 de,.bool ta,.bool fr,.int .i64 at_],.int .i64 c]) (by refine res_row (fn:=Tryz.f128) (p:=2) (q:=3) rfl _ _ w.heap.size 46 _ (0,0) _ ?_ hW9 Tryz.underlying46 rfl (by kernel_rfl);rfl) rfl ⟨by rfl,hVE⟩
theorem ct_any (t:ByteArray) (w:World) (hT:Tab 2 w) (hs:t.size≤1099511627776):Calls Tryz.prog 132 #[.string t] w fun e w'=>e= .returned (.tuple #[.agg (FcC.fdP t).times.vals,.int .i64 (FcC.fdE t)])∧Below w.heap.size w w':=by
 have kd:=FcC.fdec_any t (w.alloc (.cells #[.int .i64 0,.bool false,.bool false,.int .i64 0] 46)) (hT.be ((Below.refl _ _).alloc (Nat.le_refl _) _)) hs;obtain⟨c,hc⟩: ∃c,FcC.fdE t=c:=⟨_,rfl⟩;obtain⟨Q,hQ⟩: ∃Q,FcC.fdP t=Q:=⟨_,rfl⟩;rw[hc,hQ]at kd ⊢;clear hc hQ hT;obtain⟨pa,nu,la,⟨de,ta,fr,at_⟩,te⟩:=Q;unfold FcA.Fp.vals at kd;unfold Ti.vals;dsimp only at kd ⊢;have HB:=Lib.hid (bk1 w 46 #[.int .i64 0,.bool false,.bool false,.int .i64 0])
 go_enter Tryz.func132,Tryz.ntmps132
 go_wp2_with fail
 (with_reducible refine(kd).mono ?_);rintro e1 W1 ⟨rfl,hb1⟩
 have HB1:=Lib.hid ((HB.out.below hb1).new 193 #[.int .i64 pa,.int .i64 nu,.int .i64 la,.int .i64 de,.bool ta,.bool fr,.int .i64 at_,.string te]);have hgw:=(HB.out.below hb1).lt 0 rfl;clear kd hb1 HB;have d0:=Blk.cell (HB1.out.nth 0 rfl) 0 (v:= .int .i64 pa) rfl;have d1:=Blk.cell (HB1.out.nth 0 rfl) 1 (v:= .int .i64 nu) rfl;have d2:=Blk.cell (HB1.out.nth 0 rfl) 2 (v:= .int .i64 la) rfl;have d3:=Blk.cell (HB1.out.nth 0 rfl) 3 (v:= .int .i64 de) rfl;have d4:=Blk.cell (HB1.out.nth 0 rfl) 4 (v:= .bool ta) rfl;have d5:=Blk.cell (HB1.out.nth 0 rfl) 5 (v:= .bool fr) rfl;have d6:=Blk.cell (HB1.out.nth 0 rfl) 6 (v:= .int .i64 at_) rfl;have d7:=Blk.cell (HB1.out.nth 0 rfl) 7 (v:= .string te) rfl
 go_wp2_with (refine wpList_store_blk (g:=w.heap.size) (T:=46) (cs':= #[.int .i64 de,.bool ta,.bool fr,.int .i64 at_]) rfl 46 _ _ rfl rfl rfl (HB1.out.nth 1 rfl) (by kernel_rfl) (by kernel_rfl) (by kernel_rfl) (by kernel_rfl) ?_;intro W9 hW9 hg9 hz9)
 have hVE:=HB1.out.be.trans (below_of_only hg9 HB1.out.be.size (fun k hk=>by injection hk with hk;omega));exact bodyPost_ret (v:= .tuple #[.agg #[.int .i64 de,.bool ta,.bool fr,.int .i64 at_],.int .i64 c]) (by refine res_row (fn:=Tryz.f132) (p:=2) (q:=3) rfl _ _ w.heap.size 46 _ (0,0) _ ?_ hW9 Tryz.underlying46 rfl (by kernel_rfl);rfl) rfl ⟨by rfl,hVE⟩
theorem times_any (t:ByteArray) (w:World) (hT:Tab 2 w) (hs:t.size≤1099511627776):Calls Tryz.prog 24 #[.string t] w fun e w'=>e= .returned (.tuple #[.agg (tmT t).vals,.int .i64 (tmE t)])∧Below w.heap.size w w':=by
 have HB:=Lib.hid (bk1 w 46 #[.int .i64 0,.bool false,.bool false,.int .i64 0]);have HT:=Lib.hid hT;clear hT
 cases hM:isM t with
 |true=>
  have kf:=fun V=>find_m t V hM;have kg:=fun V=>gt_any t V hs;have HE:=Lib.hid (show tmT t=(MpC.mdP t).times∧tmE t=MpC.mdE t from⟨by unfold tmT;rw[hM,if_pos rfl],by unfold tmE;rw[hM,if_pos rfl]⟩);rw[HE.out.1,HE.out.2];obtain⟨c,hc⟩: ∃c,MpC.mdE t=c:=⟨_,rfl⟩;obtain⟨Q,hQ⟩: ∃Q,(MpC.mdP t).times=Q:=⟨_,rfl⟩;rw[hc,hQ]at kg ⊢;clear hc hQ HE hM;obtain⟨de,ta,fr,at_⟩:=Q;unfold Ti.vals at kg ⊢;unfold KM at kf;dsimp only at kg ⊢
  go_enter Tryz.func24,Tryz.ntmps24
  go_wp2_with fail
  (with_reducible refine(kf _).mono ?_);rintro e1 W1 ⟨rfl,hb1⟩
  have HB1:=Lib.hid ((HB.out.below hb1).new 138 #[.func (.func 127) #[] #[],.func (.func 128) #[] #[],.func (.func 129) #[] #[],.func (.func 130) #[] #[]]);clear kf hb1 HB;have d0:=Blk.cell (HB1.out.nth 0 rfl) 0 (v:= .func (.func 127) #[] #[]) rfl;have d1:=Blk.cell (HB1.out.nth 0 rfl) 1 (v:= .func (.func 128) #[] #[]) rfl;have d2:=Blk.cell (HB1.out.nth 0 rfl) 2 (v:= .func (.func 129) #[] #[]) rfl;have d3:=Blk.cell (HB1.out.nth 0 rfl) 3 (v:= .func (.func 130) #[] #[]) rfl
  go_wp2_with fail
  (with_reducible refine(kg _).mono ?_);rintro e1 W2 ⟨rfl,hb2⟩
  have HB2:=Lib.hid (HB1.out.below hb2);clear kg hb2 HB1 d0 d1 d2 d3
  go_wp2_with (refine wpList_store_blk (g:=w.heap.size) (T:=46) (cs':= #[.int .i64 de,.bool ta,.bool fr,.int .i64 at_]) rfl 46 _ _ rfl rfl rfl (HB2.out.nth 1 rfl) (by kernel_rfl) (by kernel_rfl) (by kernel_rfl) (by kernel_rfl) ?_;intro W9 hW9 hg9 hz9)
  have hVE:=HB2.out.be.trans (below_of_only hg9 HB2.out.be.size (fun k hk=>by injection hk with hk;omega));exact bodyPost_ret (v:= .tuple #[.agg #[.int .i64 de,.bool ta,.bool fr,.int .i64 at_],.int .i64 c]) (by refine res_row (fn:=Tryz.f24) (p:=2) (q:=3) rfl _ _ w.heap.size 46 _ (0,0) _ ?_ hW9 Tryz.underlying46 rfl (by kernel_rfl);rfl) rfl ⟨by rfl,hVE⟩
 |false=>
  cases hF:isF t with
  |true=>
   have kf:=fun V=>find_f t V hM hF;have kg:=fun V h=>ct_any t V h hs;have HE:=Lib.hid (show tmT t=(FcC.fdP t).times∧tmE t=FcC.fdE t from⟨by unfold tmT;rw[hM,hF,if_neg (by decide),if_pos rfl],by unfold tmE;rw[hM,hF,if_neg (by decide),if_pos rfl]⟩);rw[HE.out.1,HE.out.2];obtain⟨c,hc⟩: ∃c,FcC.fdE t=c:=⟨_,rfl⟩;obtain⟨Q,hQ⟩: ∃Q,(FcC.fdP t).times=Q:=⟨_,rfl⟩;rw[hc,hQ]at kg ⊢;clear hc hQ HE hM hF;obtain⟨de,ta,fr,at_⟩:=Q;unfold Ti.vals at kg ⊢;unfold KF at kf;dsimp only at kg ⊢
   go_enter Tryz.func24,Tryz.ntmps24
   go_wp2_with fail
   (with_reducible refine(kf _).mono ?_);rintro e1 W1 ⟨rfl,hb1⟩
   have HB1:=Lib.hid ((HB.out.below hb1).new 138 #[.func (.func 131) #[] #[],.func (.func 132) #[] #[],.func (.func 133) #[] #[],.func (.func 134) #[] #[]]);have HTG:=Lib.hid (kg _ (HT.out.be HB1.out.be));clear kf hb1 HB kg;have d0:=Blk.cell (HB1.out.nth 0 rfl) 0 (v:= .func (.func 131) #[] #[]) rfl;have d1:=Blk.cell (HB1.out.nth 0 rfl) 1 (v:= .func (.func 132) #[] #[]) rfl;have d2:=Blk.cell (HB1.out.nth 0 rfl) 2 (v:= .func (.func 133) #[] #[]) rfl;have d3:=Blk.cell (HB1.out.nth 0 rfl) 3 (v:= .func (.func 134) #[] #[]) rfl
   go_wp2_with fail
   (with_reducible refine(HTG.out).mono ?_);rintro e1 W2 ⟨rfl,hb2⟩
   have HB2:=Lib.hid (HB1.out.below hb2);clear HTG hb2 HB1 d0 d1 d2 d3
   go_wp2_with (refine wpList_store_blk (g:=w.heap.size) (T:=46) (cs':= #[.int .i64 de,.bool ta,.bool fr,.int .i64 at_]) rfl 46 _ _ rfl rfl rfl (HB2.out.nth 1 rfl) (by kernel_rfl) (by kernel_rfl) (by kernel_rfl) (by kernel_rfl) ?_;intro W9 hW9 hg9 hz9)
   have hVE:=HB2.out.be.trans (below_of_only hg9 HB2.out.be.size (fun k hk=>by injection hk with hk;omega));exact bodyPost_ret (v:= .tuple #[.agg #[.int .i64 de,.bool ta,.bool fr,.int .i64 at_],.int .i64 c]) (by refine res_row (fn:=Tryz.f24) (p:=2) (q:=3) rfl _ _ w.heap.size 46 _ (0,0) _ ?_ hW9 Tryz.underlying46 rfl (by kernel_rfl);rfl) rfl ⟨by rfl,hVE⟩
  |false=>
   have kf:=fun V=>find_z t V hM hF;have HE:=Lib.hid (show tmT t=zeroT∧tmE t=14 from⟨by unfold tmT;rw[hM,hF,if_neg (by decide),if_neg (by decide)],by unfold tmE;rw[hM,hF,if_neg (by decide),if_neg (by decide)]⟩);rw[HE.out.1,HE.out.2];clear HE hM hF;unfold zeroT Ti.vals;unfold KZ at kf;dsimp only
   go_enter Tryz.func24,Tryz.ntmps24
   go_wp2_with fail
   (with_reducible refine(kf _).mono ?_);rintro e1 W1 ⟨rfl,hb1⟩
   have HB1:=Lib.hid ((HB.out.below hb1).new 138 #[.nilFunc,.nilFunc,.nilFunc,.nilFunc]);clear kf hb1 HB
   go_wp2_with (refine wpList_store_blk (g:=w.heap.size) (T:=46) (cs':= #[.int .i64 0,.bool false,.bool false,.int .i64 0]) rfl 46 _ _ rfl rfl rfl (HB1.out.nth 1 rfl) (by kernel_rfl) (by kernel_rfl) (by kernel_rfl) (by kernel_rfl) ?_;intro W9 hW9 hg9 hz9)
   have hVE:=HB1.out.be.trans (below_of_only hg9 HB1.out.be.size (fun k hk=>by injection hk with hk;omega));exact bodyPost_ret (v:= .tuple #[.agg #[.int .i64 0,.bool false,.bool false,.int .i64 0],.int .i64 14]) (by refine res_row (fn:=Tryz.f24) (p:=2) (q:=3) rfl _ _ w.heap.size 46 _ (0,0) _ ?_ hW9 Tryz.underlying46 rfl (by kernel_rfl);rfl) rfl ⟨by rfl,hVE⟩
noncomputable def tmX (t:ByteArray) (d:Int):Ti:=⟨d,(tmT t).table,(tmT t).frame,(tmT t).at_⟩
noncomputable def stE (t:ByteArray) (d:Int):Int:=if tmE t≠0 then tmE t else if isM t then MpD.mwE t (tmX t d)else FcD.fwE t (tmX t d)
noncomputable def stS (t:ByteArray) (d:Int):ByteArray:=if tmE t≠0 then nob else if isM t then MpD.mwS t (tmX t d)else FcD.fwS t (tmX t d)
theorem stamp_any (t:ByteArray) (d:Int) (w:World) (hT:Tab 2 w) (hs:t.size≤1099511627776):Calls Tryz.prog 70 #[.string t,.int .i64 d] w fun e w'=>e= .returned (.tuple #[.string (stS t d),.int .i64 (stE t d)])∧Below w.heap.size w w':=by
 have kt:=fun V h=>times_any t V h hs;have HT:=Lib.hid hT;clear hT;by_cases hE:tmE t=0
 ·rw[hE]at kt
  cases hM:isM t with
  |true=>
   have kf:=fun V=>find_m t V hM;have kw:=fun V=>MpD.mwith_any t (tmX t d) V hs;have HX:=Lib.hid (show stS t d=MpD.mwS t (tmX t d)∧stE t d=MpD.mwE t (tmX t d)from⟨by unfold stS;rw[if_neg (by simpa using hE),hM,if_pos rfl],by unfold stE;rw[if_neg (by simpa using hE),hM,if_pos rfl]⟩);rw[HX.out.1,HX.out.2];have hx:tmX t d=⟨d,(tmT t).table,(tmT t).frame,(tmT t).at_⟩:=rfl;obtain⟨S,hS⟩: ∃s,MpD.mwS t (tmX t d)=s:=⟨_,rfl⟩;obtain⟨E,hEe⟩: ∃s,MpD.mwE t (tmX t d)=s:=⟨_,rfl⟩;rw[hS,hEe]at kw ⊢;rw[hx]at kw;obtain⟨Q,hQ⟩: ∃Q,tmT t=Q:=⟨_,rfl⟩;rw[hQ]at kt kw;clear hx hS hEe hQ hM hE HX;obtain⟨de,ta,fr,at_⟩:=Q;unfold Ti.vals at kt kw;unfold KM at kf;dsimp only at kt kw
   go_enter Tryz.func70,Tryz.ntmps70
   go_wp2_with fail
   (with_reducible refine(kt _ HT.out).mono ?_);rintro e1 W1 ⟨rfl,hb1⟩
   have HB1:=Lib.hid (((bk_nil w).below hb1).new 46 #[.int .i64 de,.bool ta,.bool fr,.int .i64 at_])
   go_wp2_with fail
   (with_reducible refine(kf _).mono ?_);rintro e1 W2 ⟨rfl,hb2⟩
   have hgw:=hb1.size;have hlt:W1.heap.size<W2.heap.size:=by have:=hb2.size;simp at this;omega
   have HB2:=Lib.hid ((HB1.out.below hb2).new 138 #[.func (.func 127) #[] #[],.func (.func 128) #[] #[],.func (.func 129) #[] #[],.func (.func 130) #[] #[]])
   have HS:=Lib.hid (show Blk ((W2.alloc (.cells #[.func (.func 127) #[] #[],.func (.func 128) #[] #[],.func (.func 129) #[] #[],.func (.func 130) #[] #[]] 138)).setCell ⟨W1.heap.size,0,none⟩ (.int .i64 d)) W1.heap.size 46 #[.int .i64 d,.bool ta,.bool fr,.int .i64 at_]∧Blk ((W2.alloc (.cells #[.func (.func 127) #[] #[],.func (.func 128) #[] #[],.func (.func 129) #[] #[],.func (.func 130) #[] #[]] 138)).setCell ⟨W1.heap.size,0,none⟩ (.int .i64 d)) W2.heap.size 138 #[.func (.func 127) #[] #[],.func (.func 128) #[] #[],.func (.func 129) #[] #[],.func (.func 130) #[] #[]]∧Below w.heap.size w ((W2.alloc (.cells #[.func (.func 127) #[] #[],.func (.func 128) #[] #[],.func (.func 129) #[] #[],.func (.func 130) #[] #[]] 138)).setCell ⟨W1.heap.size,0,none⟩ (.int .i64 d))from
    ⟨Blk.set_ (HB2.out.nth 1 rfl) 0 _,Blk.far (HB2.out.nth 0 rfl) (by simp;omega) _,HB2.out.be.setCell (p:=⟨W1.heap.size,0,none⟩) hgw _⟩)
   have d0:=Blk.cell (HB2.out.nth 1 rfl) 0 (v:= .int .i64 de) rfl;have f0:=Blk.frozen (HB2.out.nth 1 rfl) 0;have x0:=Blk.cell (HS.out.1) 0 (v:= .int .i64 d) rfl;have x1:=Blk.cell (HS.out.1) 1 (v:= .bool ta) rfl;have x2:=Blk.cell (HS.out.1) 2 (v:= .bool fr) rfl;have x3:=Blk.cell (HS.out.1) 3 (v:= .int .i64 at_) rfl;have y0:=Blk.cell (HS.out.2.1) 0 (v:= .func (.func 127) #[] #[]) rfl;have y1:=Blk.cell (HS.out.2.1) 1 (v:= .func (.func 128) #[] #[]) rfl;have y2:=Blk.cell (HS.out.2.1) 2 (v:= .func (.func 129) #[] #[]) rfl;have y3:=Blk.cell (HS.out.2.1) 3 (v:= .func (.func 130) #[] #[]) rfl;have HBE:=Lib.hid HS.out.2.2;have HTW:=Lib.hid (HT.out.be HS.out.2.2);clear kt kf hb1 hb2 HB1 HB2 HS hgw hlt
   go_wp2_with fail
   (with_reducible refine(kw _).mono ?_);rintro e1 W3 ⟨rfl,hb3⟩
   have hE2:=HBE.out.trans (hb3.mono HBE.out.size)
   go_wp2_with fail
   go_ret2
   exact⟨rfl,hE2⟩
  |false=>
   have hF:isF t=true:=by
    cases hF:isF t with
    |true=>rfl
    |false=>unfold tmE at hE;rw[hM,hF,if_neg (by decide),if_neg (by decide)]at hE;cases hE
   have kf:=fun V=>find_f t V hM hF;have kw:=fun V h=>FcD.fwith_any t (tmX t d) V h hs;have HX:=Lib.hid (show stS t d=FcD.fwS t (tmX t d)∧stE t d=FcD.fwE t (tmX t d)from⟨by unfold stS;rw[if_neg (by simpa using hE),hM,if_neg (by decide)],by unfold stE;rw[if_neg (by simpa using hE),hM,if_neg (by decide)]⟩);rw[HX.out.1,HX.out.2];have hx:tmX t d=⟨d,(tmT t).table,(tmT t).frame,(tmT t).at_⟩:=rfl;obtain⟨S,hS⟩: ∃s,FcD.fwS t (tmX t d)=s:=⟨_,rfl⟩;obtain⟨E,hEe⟩: ∃s,FcD.fwE t (tmX t d)=s:=⟨_,rfl⟩;rw[hS,hEe]at kw ⊢;rw[hx]at kw;obtain⟨Q,hQ⟩: ∃Q,tmT t=Q:=⟨_,rfl⟩;rw[hQ]at kt kw;clear hx hS hEe hQ hM hE HX hF;obtain⟨de,ta,fr,at_⟩:=Q;unfold Ti.vals at kt kw;unfold KF at kf;dsimp only at kt kw
   go_enter Tryz.func70,Tryz.ntmps70
   go_wp2_with fail
   (with_reducible refine(kt _ HT.out).mono ?_);rintro e1 W1 ⟨rfl,hb1⟩
   have HB1:=Lib.hid (((bk_nil w).below hb1).new 46 #[.int .i64 de,.bool ta,.bool fr,.int .i64 at_])
   go_wp2_with fail
   (with_reducible refine(kf _).mono ?_);rintro e1 W2 ⟨rfl,hb2⟩
   have hgw:=hb1.size;have hlt:W1.heap.size<W2.heap.size:=by have:=hb2.size;simp at this;omega
   have HB2:=Lib.hid ((HB1.out.below hb2).new 138 #[.func (.func 131) #[] #[],.func (.func 132) #[] #[],.func (.func 133) #[] #[],.func (.func 134) #[] #[]])
   have HS:=Lib.hid (show Blk ((W2.alloc (.cells #[.func (.func 131) #[] #[],.func (.func 132) #[] #[],.func (.func 133) #[] #[],.func (.func 134) #[] #[]] 138)).setCell ⟨W1.heap.size,0,none⟩ (.int .i64 d)) W1.heap.size 46 #[.int .i64 d,.bool ta,.bool fr,.int .i64 at_]∧Blk ((W2.alloc (.cells #[.func (.func 131) #[] #[],.func (.func 132) #[] #[],.func (.func 133) #[] #[],.func (.func 134) #[] #[]] 138)).setCell ⟨W1.heap.size,0,none⟩ (.int .i64 d)) W2.heap.size 138 #[.func (.func 131) #[] #[],.func (.func 132) #[] #[],.func (.func 133) #[] #[],.func (.func 134) #[] #[]]∧Below w.heap.size w ((W2.alloc (.cells #[.func (.func 131) #[] #[],.func (.func 132) #[] #[],.func (.func 133) #[] #[],.func (.func 134) #[] #[]] 138)).setCell ⟨W1.heap.size,0,none⟩ (.int .i64 d))from
    ⟨Blk.set_ (HB2.out.nth 1 rfl) 0 _,Blk.far (HB2.out.nth 0 rfl) (by simp;omega) _,HB2.out.be.setCell (p:=⟨W1.heap.size,0,none⟩) hgw _⟩)
   have d0:=Blk.cell (HB2.out.nth 1 rfl) 0 (v:= .int .i64 de) rfl;have f0:=Blk.frozen (HB2.out.nth 1 rfl) 0;have x0:=Blk.cell (HS.out.1) 0 (v:= .int .i64 d) rfl;have x1:=Blk.cell (HS.out.1) 1 (v:= .bool ta) rfl;have x2:=Blk.cell (HS.out.1) 2 (v:= .bool fr) rfl;have x3:=Blk.cell (HS.out.1) 3 (v:= .int .i64 at_) rfl;have y0:=Blk.cell (HS.out.2.1) 0 (v:= .func (.func 131) #[] #[]) rfl;have y1:=Blk.cell (HS.out.2.1) 1 (v:= .func (.func 132) #[] #[]) rfl;have y2:=Blk.cell (HS.out.2.1) 2 (v:= .func (.func 133) #[] #[]) rfl;have y3:=Blk.cell (HS.out.2.1) 3 (v:= .func (.func 134) #[] #[]) rfl;have HBE:=Lib.hid HS.out.2.2;have HTW:=Lib.hid (HT.out.be HS.out.2.2);clear kt kf hb1 hb2 HB1 HB2 HS hgw hlt
   go_wp2_with fail
   (with_reducible refine(kw _ HTW.out).mono ?_);rintro e1 W3 ⟨rfl,hb3⟩
   have hE2:=HBE.out.trans (hb3.mono HBE.out.size)
   go_wp2_with fail
   go_ret2
   exact⟨rfl,hE2⟩
 ·have HX:=Lib.hid (show stS t d=nob∧stE t d=tmE t from⟨if_pos hE,if_pos hE⟩)
  rw[HX.out.1,HX.out.2];have t1:(tmE t !=0)=true:=by simpa using hE
  obtain⟨E,hEe⟩: ∃s,tmE t=s:=⟨_,rfl⟩;rw[hEe]at kt t1 ⊢;obtain⟨Q,hQ⟩: ∃Q,tmT t=Q:=⟨_,rfl⟩;rw[hQ]at kt;clear hQ hEe hE HX;obtain⟨de,ta,fr,at_⟩:=Q;unfold Ti.vals at kt;dsimp only at kt
  go_enter Tryz.func70,Tryz.ntmps70
  go_wp2_with fail
  (with_reducible refine(kt _ HT.out).mono ?_);rintro e1 W1 ⟨rfl,hb1⟩
  have hbe:=hb1.alloc hb1.size (.cells #[.int .i64 de,.bool ta,.bool fr,.int .i64 at_] 46)
  go_wp2_with fail
  go_ret2
  exact⟨rfl,hbe⟩
end Go.Proofs.YtibjkhepedfpiaaGreatDoor.BuB
namespace Go.Proofs.YtibjkhepedfpiaaGreatDoor.BuC
open Go Go.RowKit Q Mem Rg Ap St CrB TmA DgP DgA DgC MpA FrA FrB
set_option maxRecDepth 100000
theorem used_any (w:World) (B gf gr:Nat) (v:Value) (S:Fr) (h:FrIn w B gf gr v S):Calls Tryz.prog 51 #[.pointer (some ⟨gf,0,none⟩)] w fun e w'=>e= .returned (.int .i64 (S.used:Int))∧w=w':=by
 have c0:=Blk.cell h.box 4 (v:= .int .i64 (S.used:Int)) rfl;clear h
 go_enter Tryz.func51,Tryz.ntmps51
 go_wp2_with fail
 go_ret;exact⟨rfl,rfl⟩
def gp (L:List (Nat×ByteArray)) (mac:Int) (last:Bool) (i:Nat):Mp:=
 ⟨mac,⟨0,decide (i+1=L.length),decide (i+1=L.length)&&last,((L.getD i (0,nob)).1:Int)⟩,(L.getD i (0,nob)).2⟩
def gL (L:List (Nat×ByteArray)) (mac:Int) (last:Bool):List ByteArray:=(List.range L.length).map fun i=>(gp L mac last i).enc
def GoodL (L:List (Nat×ByteArray)):Prop:= ∀x∈L,dgE x.2=0∧x.1≤262143
theorem gp_get {L:List (Nat×ByteArray)} {i:Nat} {x:Nat×ByteArray} (h:L[i]? =some x) (mac:Int) (last:Bool):gp L mac last i=⟨mac,⟨0,decide (i+1=L.length),decide (i+1=L.length)&&last,(x.1:Int)⟩,x.2⟩:=by
 unfold gp;rw[List.getD_eq_getElem?_getD,h];rfl
theorem gp_chk {L:List (Nat×ByteArray)} (hL:GoodL L) {i:Nat} {x:Nat×ByteArray} (h:L[i]? =some x) (mac:Int) (last:Bool):(gp L mac last i).chk=if 0≤mac∧mac≤65535 then 0 else 15:=by
 rw[gp_get h];obtain⟨h1,h2⟩:=hL x (List.mem_of_getElem? h);have ht:Ti.ok ⟨0,decide (i+1=L.length),decide (i+1=L.length)&&last,(x.1:Int)⟩:=⟨⟨by show(0:Int)≤0;decide,by show(0:Int)≤4095;decide⟩,by show(0:Int)≤(x.1:Int);omega,by show(x.1:Int)≤262143;omega⟩;unfold Mp.chk Mp.ok;by_cases hm:0≤mac∧mac≤65535
 ·rw[if_pos ⟨hm,ht⟩,if_pos hm];exact h1
 ·rw[if_neg (fun h=>hm h.1),if_neg hm]
theorem gL_snoc {L:List (Nat×ByteArray)} {q:Nat} (h:q<L.length) (mac:Int) (last:Bool):flat enS ((gL L mac last).take (q+1))=flat enS ((gL L mac last).take q)++[.string (gp L mac last q).enc]:=by
 have:(gL L mac last)[q]? =some (gp L mac last q).enc:=by
  unfold gL;rw[List.getElem?_map,List.getElem?_range h];rfl
 rw[flat_snoc this];rfl
theorem gL_len (L:List (Nat×ByteArray)) (mac:Int) (last:Bool):(gL L mac last).length=L.length:=by simp[gL]
theorem elemS:Elem Tryz.prog 34 9 1 16:=elem_of Tryz.underlying34 (z:= .string ByteArray.empty) (by kernel_rfl) rfl (by decide)
set_option maxHeartbeats 3200000 in
theorem grams_any (w:World) (B gf gr:Nat) (v:Value) (S:Fr) (mac:Int) (last:Bool) (h:FrIn w B gf gr v S) (hok:OkF S) (hg:GoodL S.L) (h0:S.L.length≠0):
 Calls Tryz.prog 53 #[.pointer (some ⟨gf,0,none⟩),.int .i64 mac,.bool last] w fun e w'=>Below w.heap.size w w'∧ ∃v',e= .returned (.tuple #[v',.int .i64 (if 0≤mac∧mac≤65535 then 0 else 15)])∧(0≤mac∧mac≤65535→w'.ownsRow w.heap.size 9 1 v' S.L.length (flat enS (gL S.L mac last)))∧(¬(0≤mac∧mac≤65535)→v'= .slice none 0 0):=by
 have kp:=placed_any w B gf gr v S h hok;have hn9:S.L.length≤200000:=by have h1:=hok.n;have h2:=hok.u;have h3:=hok.C;have h4:=hok.R;have:S.R*S.C≤1024*191:=Nat.mul_le_mul h4 h3;omega
 obtain⟨L,hL⟩: ∃L,S.L=L:=⟨_,rfl⟩;rw[hL]at kp hg h0 hn9 ⊢;obtain⟨n,hn⟩: ∃n,L.length=n:=⟨_,rfl⟩;rw[hn]at kp h0 hn9 ⊢;have HG:=Lib.hid hg;have HN:=Lib.hid hn;clear hg hn hL h hok;obtain⟨R,hR⟩: ∃R:Ending→World→Prop,R=(fun e w'=>Below w.heap.size w w'∧ ∃v',e= .returned (.tuple #[v',.int .i64 (if 0≤mac∧mac≤65535 then 0 else 15)])∧(0≤mac∧mac≤65535→w'.ownsRow w.heap.size 9 1 v' n (flat enS (gL L mac last)))∧(¬(0≤mac∧mac≤65535)→v'= .slice none 0 0)):=⟨_,rfl⟩;rw[←hR];have HR:=Lib.hid hR;clear hR
 go_enter Tryz.func53,Tryz.ntmps53
 go_wp2_with fail
 (with_reducible refine(kp).mono ?_);rintro e1 W1 ⟨hb1,vp,rfl,hpl⟩
 obtain⟨pa,pc,rfl⟩:=own_form hpl;have HSQ:=Lib.hid (own_seq enPd_len hpl HN.out);have HB1:=Lib.hid hb1;clear kp hpl hb1
 go_wp2_with fail
 go_loopw [8,19] (fun out iv wr=> ∃q:Nat,q≤n∧iv= .int .i64 q∧wr.ownsRow W1.heap.size 9 1 out q (flat enS ((gL L mac last).take q))∧Below W1.heap.size W1 wr∧Hid (0<q→0≤mac∧mac≤65535)) (fun _ iv _=>n-(intOf iv).toNat)
 case atStart=>exact⟨0,by omega,rfl,by simpa [flat]using World.ownsRow_nil _ _ _ _,Below.refl _ _,Lib.hid (fun h=>absurd h (by omega))⟩
 case round=>
  obtain⟨q,hq,rfl,hown,hb,HQ⟩:=hrel;by_cases hqn:q<n
  ·have t1:decide (q<n)=true:=decide_eq_true hqn
   obtain⟨x,hx⟩: ∃x,L[q]? =some x:=⟨_,List.getElem?_eq_getElem (by rw[HN.out];exact hqn)⟩;obtain⟨b0,o0,hab,hlt,hc⟩:=(HSQ.out.below (Nat.le_refl _) hb) q x hx;have c0:=hc 0 _ rfl;have c1:=hc 1 _ rfl;rw[off_eq]at c0 c1;rw[Nat.add_zero]at c0;subst hab;have k0:(0:Int)≤(q:Int):=Int.natCast_nonneg _;have k1:(q:Int)<(n:Int):=by omega
   have hck:=gp_chk HG.out hx mac last;have hgx:=HG.out x (List.mem_of_getElem? hx);have hsn:=gL_snoc (mac:=mac) (last:=last) (show q<L.length by rw[HN.out];exact hqn);have hts:=(MpA.dg_size hgx.1);have hgg:=gp_get hx mac last;obtain⟨at_,d⟩:=x;dsimp only at c0 c1 hgx hts hgg;obtain⟨X,hX⟩: ∃X,(gp L mac last q).enc=X:=⟨_,rfl⟩;rw[hX]at hsn;have HSN:=Lib.hid hsn;have hbs:=hb.size;have hz1:=HB1.out.size;have hown2:=own_below hown ((Below.refl wr.heap.size wr).alloc (Nat.le_refl _) (.cells #[.int .i64 (at_:Int),.string d] 185));have hb2:=hb.alloc hbs (.cells #[.int .i64 (at_:Int),.string d] 185);have hbk:=Blk.new wr 185 #[.int .i64 (at_:Int),.string d];clear hx hc hgx hsn hown;by_cases hen:q+1=n
   ·have te:((q:Int)==(n:Int)-1)=true:=beq_iff_eq.2 (by omega)
    rw[HN.out,decide_eq_true hen,Bool.true_and]at hgg
    have ke: ∀V,Calls Tryz.prog 90 #[.agg #[.int .i64 mac,.int .i64 0,.bool true,.bool last,.int .i64 (at_:Int),.string d]] V fun e w'=>e= .returned (.tuple #[.string X,.int .i64 (if 0≤mac∧mac≤65535 then 0 else 15)])∧Below V.heap.size V w':=fun V=>by
     have:=menc_any (gp L mac last q) V (by rw[hgg];dsimp only;omega);rw[hX,hck,hgg]at this;exact this
    clear hgg hX hck hen;by_cases hm:0≤mac∧mac≤65535
    ·rw[if_pos hm]at ke
     have HM:=Lib.hid hm;clear hm;have d0:=Blk.cell (hbk) 0 (v:= .int .i64 (at_:Int)) rfl;have d1:=Blk.cell (hbk) 1 (v:= .string d) rfl
     go_wp2_with fail
     (with_reducible refine(ke _).mono ?_);rintro e1 W2 ⟨rfl,hb3⟩
     have hown3:=own_below hown2 hb3;have hb4:=hb2.trans (hb3.mono (Nat.le_trans hbs (by simp)));have hz4:=hb4.size;clear ke hown2 hb3 d0 d1 hbk hb2
     go_wp2_with (at_builtin;refine ApG.wpList_appG rfl _ _ rfl elemS rfl (hown3.alloc (.cells #[.string X] 9)) rfl rfl (blk_news (Blk.new W2 9 #[.string X])) (by simp[Value.oneCell']) (by omega) (by unfold maxLen;omega) (by simp;omega) ?_)
     intro v9 w8 hown9 hg9 hl9;have hb5:=(hb4.alloc hz4 (.cells #[.string X] 9)).trans (below_of_only hg9 (by simp;omega) (fun k hk=>(hown3.lt k hk).1));have hown10:w8.ownsRow W1.heap.size 9 1 v9 (q+1) (flat enS ((gL L mac last).take (q+1))):=by rw[HSN.out];exact hown9
     obtain⟨va,vc,rfl⟩:=own_form hown10;have HO:=Lib.hid hown10;clear hown9 hg9 hl9 hown3 hb4 hown10
     go_wp2_with fail
     go_roundw
     case rel=>exact⟨q+1,by omega,by go_num,HO.out,hb5,Lib.hid (fun _=>HM.out)⟩
     case measure=>simp[intOf];omega
    ·rw[if_neg hm]at ke
     have HM:=Lib.hid hm;clear hm;have d0:=Blk.cell (hbk) 0 (v:= .int .i64 (at_:Int)) rfl;have d1:=Blk.cell (hbk) 1 (v:= .string d) rfl
     go_wp2_with fail
     (with_reducible refine(ke _).mono ?_);rintro e1 W2 ⟨rfl,hb3⟩
     have hb4:=Lib.hid (HB1.out.trans ((hb2.trans (hb3.mono (Nat.le_trans hbs (by simp)))).mono HB1.out.size));clear ke hown2 hb3 d0 d1 hbk hb2
     go_wp2_with fail
     rw[HR.out];exact⟨hb4.out,.slice none 0 0,by rw[if_neg HM.out];rfl,fun h=>absurd h HM.out,fun _=>rfl⟩
   ·have te:((q:Int)==(n:Int)-1)=false:=beq_eq_false_iff_ne.2 (by omega)
    rw[HN.out,decide_eq_false hen,Bool.false_and]at hgg
    have ke: ∀V,Calls Tryz.prog 90 #[.agg #[.int .i64 mac,.int .i64 0,.bool false,.bool false,.int .i64 (at_:Int),.string d]] V fun e w'=>e= .returned (.tuple #[.string X,.int .i64 (if 0≤mac∧mac≤65535 then 0 else 15)])∧Below V.heap.size V w':=fun V=>by
     have:=menc_any (gp L mac last q) V (by rw[hgg];dsimp only;omega);rw[hX,hck,hgg]at this;exact this
    clear hgg hX hck hen;by_cases hm:0≤mac∧mac≤65535
    ·rw[if_pos hm]at ke
     have HM:=Lib.hid hm;clear hm;have d0:=Blk.cell (hbk) 0 (v:= .int .i64 (at_:Int)) rfl;have d1:=Blk.cell (hbk) 1 (v:= .string d) rfl
     go_wp2_with fail
     (with_reducible refine(ke _).mono ?_);rintro e1 W2 ⟨rfl,hb3⟩
     have hown3:=own_below hown2 hb3;have hb4:=hb2.trans (hb3.mono (Nat.le_trans hbs (by simp)));have hz4:=hb4.size;clear ke hown2 hb3 d0 d1 hbk hb2
     go_wp2_with (at_builtin;refine ApG.wpList_appG rfl _ _ rfl elemS rfl (hown3.alloc (.cells #[.string X] 9)) rfl rfl (blk_news (Blk.new W2 9 #[.string X])) (by simp[Value.oneCell']) (by omega) (by unfold maxLen;omega) (by simp;omega) ?_)
     intro v9 w8 hown9 hg9 hl9;have hb5:=(hb4.alloc hz4 (.cells #[.string X] 9)).trans (below_of_only hg9 (by simp;omega) (fun k hk=>(hown3.lt k hk).1));have hown10:w8.ownsRow W1.heap.size 9 1 v9 (q+1) (flat enS ((gL L mac last).take (q+1))):=by rw[HSN.out];exact hown9
     obtain⟨va,vc,rfl⟩:=own_form hown10;have HO:=Lib.hid hown10;clear hown9 hg9 hl9 hown3 hb4 hown10
     go_wp2_with fail
     go_roundw
     case rel=>exact⟨q+1,by omega,by go_num,HO.out,hb5,Lib.hid (fun _=>HM.out)⟩
     case measure=>simp[intOf];omega
    ·rw[if_neg hm]at ke
     have HM:=Lib.hid hm;clear hm;have d0:=Blk.cell (hbk) 0 (v:= .int .i64 (at_:Int)) rfl;have d1:=Blk.cell (hbk) 1 (v:= .string d) rfl
     go_wp2_with fail
     (with_reducible refine(ke _).mono ?_);rintro e1 W2 ⟨rfl,hb3⟩
     have hb4:=Lib.hid (HB1.out.trans ((hb2.trans (hb3.mono (Nat.le_trans hbs (by simp)))).mono HB1.out.size));clear ke hown2 hb3 d0 d1 hbk hb2
     go_wp2_with fail
     rw[HR.out];exact⟨hb4.out,.slice none 0 0,by rw[if_neg HM.out];rfl,fun h=>absurd h HM.out,fun _=>rfl⟩
  ·obtain rfl:q=n:=by omega
   have t1:decide (q<q)=false:=by simp
   rw[List.take_of_length_le (by rw[gL_len,HN.out];exact Nat.le_refl _)]at hown;have hm:=HQ.out (by omega);obtain⟨oa,oc,rfl⟩:=own_form hown;have HF:=Lib.hid (show Below w.heap.size w wr∧wr.ownsRow w.heap.size 9 1 (.slice oa q oc) q (flat enS (gL L mac last))from⟨HB1.out.trans (hb.mono HB1.out.size),ApG.own_base hown HB1.out.size⟩);have HM:=Lib.hid hm;clear hown hm hb
   go_wp2_with fail
   rw[HR.out];exact⟨HF.out.1,.slice oa q oc,by rw[if_pos HM.out];rfl,fun _=>HF.out.2,fun h=>absurd HM.out h⟩
end Go.Proofs.YtibjkhepedfpiaaGreatDoor.BuC
namespace Go.Proofs.YtibjkhepedfpiaaGreatDoor.BuD
open Go Go.RowKit Q Mem Rg Ap St CrB Tab TmA FcA BuC
def cp (pad:Int) (L:List ByteArray) (i:Nat):Fp:=
 ⟨pad,(i:Int),(L.length:Int)-1,⟨0,false,decide (i+1=L.length),(i:Int)*((L.getD i nob).size:Int)⟩,L.getD i nob⟩
def cps (pad:Int) (L:List ByteArray):List Fp:=(List.range L.length).map (cp pad L)
def cL (pad:Int) (L:List ByteArray):List ByteArray:=(cps pad L).map Fp.enc
def enFp (p:Fp):List Value:=p.vals.toList
theorem enFp_len (p:Fp):(enFp p).length=8:=rfl
structure ColOk (pad:Int) (L:List ByteArray):Prop where
 pad:0≤pad∧pad≤191
 len:L.length≤64
 sz: ∀s∈L,isSz s.size=true
theorem cp_get {L:List ByteArray} {i:Nat} {s:ByteArray} (h:L[i]? =some s) (pad:Int):cp pad L i=⟨pad,(i:Int),(L.length:Int)-1,⟨0,false,decide (i+1=L.length),(i:Int)*(s.size:Int)⟩,s⟩:=by
 unfold cp;rw[List.getD_eq_getElem?_getD,h];rfl
theorem sz_le {n:Nat} (h:isSz (n:Int)=true):n≤1024:=by
 rcases isSz_true h with h|h|h|h<;>omega
theorem cp_chk {pad:Int} {L:List ByteArray} (h:ColOk pad L) {i:Nat} {s:ByteArray} (hs:L[i]? =some s):(cp pad L i).chk=0:=by
 have hi:=(List.getElem?_eq_some_iff.1 hs).1;have hz:=h.sz s (List.mem_of_getElem? hs);have h9:=sz_le hz;have hl:=h.len;have hm:i*s.size≤63*1024:=Nat.mul_le_mul (by omega) h9;rw[cp_get hs];have h1:Fp.ok ⟨pad,(i:Int),(L.length:Int)-1,⟨0,false,decide (i+1=L.length),(i:Int)*(s.size:Int)⟩,s⟩:=⟨h.pad,⟨by show(0:Int)≤(L.length:Int)-1;omega,by show(L.length:Int)-1<64;omega⟩,by show(0:Int)≤(i:Int);omega,by show(i:Int)≤(L.length:Int)-1;omega⟩;have h2:Ti.ok ⟨0,false,decide (i+1=L.length),(i:Int)*(s.size:Int)⟩:=⟨⟨by show(0:Int)≤0;decide,by show(0:Int)≤4095;decide⟩,by show(0:Int)≤(i:Int)*(s.size:Int);exact Int.mul_nonneg (by omega) (by omega),by show(i:Int)*(s.size:Int)≤262143;have:((i*s.size:Nat):Int)=(i:Int)*(s.size:Int):=Int.natCast_mul _ _;omega⟩;unfold Fp.chk;rw[if_pos ⟨h1,h2⟩];show(if isSz (s.size:Int)=true then(0:Int)else 12)=0;rw[if_pos hz]
theorem cps_len (pad:Int) (L:List ByteArray):(cps pad L).length=L.length:=by simp[cps]
theorem cps_get {pad:Int} {L:List ByteArray} {q:Nat} (h:q<L.length):(cps pad L)[q]? =some (cp pad L q):=by
 unfold cps;rw[List.getElem?_map,List.getElem?_range h];rfl
theorem elemF:Elem Tryz.prog 190 193 8 64:=elem_of Tryz.underlying190 (z:= .agg #[.int .i64 0,.int .i64 0,.int .i64 0,.int .i64 0,.bool false,.bool false,.int .i64 0,.string ByteArray.empty]) (by kernel_rfl) rfl (by decide)
set_option maxRecDepth 100000
set_option maxHeartbeats 3200000 in
theorem fcols_any (pad:Int) (a:Option Addr) (n c:Nat) (L:List ByteArray) (w:World) (hT:Tab 2 w) (hn:L.length=n) (hL:Seq enS 1 w a L) (hok:ColOk pad L):
 Calls Tryz.prog 91 #[.int .i64 pad,.slice a n c] w fun e w'=>Below w.heap.size w w'∧ ∃v',e= .returned (.tuple #[v',.int .i64 0])∧w'.ownsRow w.heap.size 193 8 v' n (flat enFp (cps pad L)):=by
 obtain⟨R,hR⟩: ∃R:Ending→World→Prop,R=(fun e w'=>Below w.heap.size w w'∧ ∃v',e= .returned (.tuple #[v',.int .i64 0])∧w'.ownsRow w.heap.size 193 8 v' n (flat enFp (cps pad L))):=⟨_,rfl⟩;rw[←hR];have HR:=Lib.hid hR;have HT:=Lib.hid hT;have HN:=Lib.hid hn;have HL:=Lib.hid hL;have HO:=Lib.hid hok;have hn9:n≤64:=by have:=hok.len;omega
 clear hR hT hn hL hok
 go_enter Tryz.func91,Tryz.ntmps91
 go_wp2_with fail
 go_loopw [6,13] (fun out iv wr=> ∃q:Nat,q≤n∧iv= .int .i64 q∧wr.ownsRow w.heap.size 193 8 out q (flat enFp ((cps pad L).take q))∧Below w.heap.size w wr) (fun _ iv _=>n-(intOf iv).toNat)
 case atStart=>exact⟨0,by omega,rfl,by simpa [flat]using World.ownsRow_nil _ _ _ _,Below.refl _ _⟩
 case round=>
  obtain⟨q,hq,rfl,hown,hb⟩:=hrel;by_cases hqn:q<n
  ·have t1:decide (q<n)=true:=decide_eq_true hqn
   obtain⟨s,hs⟩: ∃s,L[q]? =some s:=⟨_,List.getElem?_eq_getElem (by rw[HN.out];exact hqn)⟩;obtain⟨b0,o0,rfl,hlt,hc⟩:=(HL.out.below (Nat.le_refl _) hb) q s hs;have c0:wr.cell? ⟨b0,o0+q,none⟩=some (.string s):=hc 0 _ rfl;have k0:(0:Int)≤(q:Int):=Int.natCast_nonneg _;have k1:(q:Int)<(n:Int):=by omega
   have hg:=cp_get hs pad;have hck:=cp_chk HO.out hs;have hsn:flat enFp ((cps pad L).take (q+1))=flat enFp ((cps pad L).take q)++enFp (cp pad L q):=flat_snoc (cps_get (by rw[HN.out];exact hqn));have hz9:=sz_le (HO.out.sz s (List.mem_of_getElem? hs));rw[hg]at hsn
   have EN:((q:Int)==(n:Int)-1)=decide (q+1=n):=by
    by_cases h:q+1=n
    ·rw[decide_eq_true h];exact beq_iff_eq.2 (by omega)
    ·rw[decide_eq_false h];exact beq_eq_false_iff_ne.2 (by omega)
   have kc: ∀V,Tab 2 V→Calls Tryz.prog 125 #[.agg (cp pad L q).vals] V fun e w'=>e= .returned (.int .i64 0)∧Below V.heap.size V w':=fun V h=>by have:=fcheck_any (cp pad L q) V h;rw[hck]at this;exact this
   rw[hg]at kc;unfold Fp.vals at kc;dsimp only at kc;unfold enFp Fp.vals at hsn;dsimp only at hsn;rw[HN.out]at kc hsn;obtain⟨E,hE⟩: ∃E,decide (q+1=n)=E:=⟨_,rfl⟩;rw[hE]at EN kc hsn;obtain⟨A,hA⟩: ∃A,(q:Int)*(s.size:Int)=A:=⟨_,rfl⟩;have hA0:0≤A:=by rw[←hA];exact Int.mul_nonneg (by omega) (by omega)
   have hA9:A≤65536:=by rw[←hA,←Int.natCast_mul];have:q*s.size≤64*1024:=Nat.mul_le_mul (by omega) hz9;omega
   rw[hA]at kc hsn;have hw:wrap64 ((q:Int)*(s.size:Int))=A:=by rw[hA];unfold wrap64;omega
   have HSN:=Lib.hid (show flat enFp ((cps pad L).take (q+1))=flat enFp ((cps pad L).take q)++[.int .i64 pad,.int .i64 (q:Int),.int .i64 ((n:Int)-1),.int .i64 0,.bool false,.bool E,.int .i64 A,.string s]from hsn);have hbs:=hb.size;have hbk:=Blk.new wr 193 #[.int .i64 pad,.int .i64 (q:Int),.int .i64 ((n:Int)-1),.int .i64 0,.bool false,.bool E,.int .i64 A,.string s];have hb2:=hb.alloc hbs (.cells #[.int .i64 pad,.int .i64 (q:Int),.int .i64 ((n:Int)-1),.int .i64 0,.bool false,.bool E,.int .i64 A,.string s] 193);have hown2:=own_below hown ((Below.refl wr.heap.size wr).alloc (Nat.le_refl _) (.cells #[.int .i64 pad,.int .i64 (q:Int),.int .i64 ((n:Int)-1),.int .i64 0,.bool false,.bool E,.int .i64 A,.string s] 193));have HKC:=Lib.hid (kc _ (HT.out.be hb2));clear hc hs hg hck hsn hz9 hE hA hown kc hA0 hA9 hlt;have d0:=Blk.cell (hbk) 0 (v:= .int .i64 pad) rfl;have d1:=Blk.cell (hbk) 1 (v:= .int .i64 (q:Int)) rfl;have d2:=Blk.cell (hbk) 2 (v:= .int .i64 ((n:Int)-1)) rfl;have d3:=Blk.cell (hbk) 3 (v:= .int .i64 0) rfl;have d4:=Blk.cell (hbk) 4 (v:= .bool false) rfl;have d5:=Blk.cell (hbk) 5 (v:= .bool E) rfl;have d6:=Blk.cell (hbk) 6 (v:= .int .i64 A) rfl;have d7:=Blk.cell (hbk) 7 (v:= .string s) rfl
   go_wp2_with fail
   (with_reducible refine(HKC.out).mono ?_);rintro e1 W2 ⟨rfl,hb3⟩
   have hbk3:=Blk.below hbk hb3 (Blk.lt hbk);have hown3:=own_below hown2 hb3;have hb4:=hb2.trans (hb3.mono (Nat.le_trans hbs (by simp)));have hz4:=hb4.size;clear HKC hown2 hb3 hbk hb2 d0 d1 d2 d3 d4 d5 d6 d7;have d0:=Blk.cell (hbk3) 0 (v:= .int .i64 pad) rfl;have d1:=Blk.cell (hbk3) 1 (v:= .int .i64 (q:Int)) rfl;have d2:=Blk.cell (hbk3) 2 (v:= .int .i64 ((n:Int)-1)) rfl;have d3:=Blk.cell (hbk3) 3 (v:= .int .i64 0) rfl;have d4:=Blk.cell (hbk3) 4 (v:= .bool false) rfl;have d5:=Blk.cell (hbk3) 5 (v:= .bool E) rfl;have d6:=Blk.cell (hbk3) 6 (v:= .int .i64 A) rfl;have d7:=Blk.cell (hbk3) 7 (v:= .string s) rfl;have hbn:=Blk.new W2 193 #[.int .i64 pad,.int .i64 (q:Int),.int .i64 ((n:Int)-1),.int .i64 0,.bool false,.bool E,.int .i64 A,.string s]
   go_wp2_with (at_builtin;refine ApG.wpList_appG rfl _ _ rfl elemF rfl (hown3.alloc (.cells #[.int .i64 pad,.int .i64 (q:Int),.int .i64 ((n:Int)-1),.int .i64 0,.bool false,.bool E,.int .i64 A,.string s] 193)) rfl rfl (blk_news hbn) (by simp[Value.oneCell']) (by omega) (by unfold maxLen;omega) (by simp;omega) ?_)
   intro v9 w8 hown9 hg9 hl9;have hb5:=(hb4.alloc hz4 (.cells #[.int .i64 pad,.int .i64 (q:Int),.int .i64 ((n:Int)-1),.int .i64 0,.bool false,.bool E,.int .i64 A,.string s] 193)).trans (below_of_only hg9 (by simp;omega) (fun k hk=>(hown3.lt k hk).1));have hown10:w8.ownsRow w.heap.size 193 8 v9 (q+1) (flat enFp ((cps pad L).take (q+1))):=by rw[HSN.out];exact hown9
   obtain⟨va,vc,rfl⟩:=own_form hown10;have HO2:=Lib.hid hown10;clear hown9 hg9 hl9 hown3 hb4 hown10 hbk3 hbn d0 d1 d2 d3 d4 d5 d6 d7
   go_wp2_with fail
   go_roundw
   case rel=>exact⟨q+1,by omega,by go_num,HO2.out,hb5⟩
   case measure=>simp[intOf];omega
  ·obtain rfl:q=n:=by omega
   have t1:decide (q<q)=false:=by simp
   rw[List.take_of_length_le (by rw[cps_len,HN.out];exact Nat.le_refl _)]at hown;obtain⟨oa,oc,rfl⟩:=own_form hown;have HF:=Lib.hid (And.intro hb hown);clear hown hb
   go_wp2_with fail
   rw[HR.out];exact⟨HF.out.1,_,rfl,HF.out.2⟩
theorem cL_snoc {pad:Int} {L:List ByteArray} {q:Nat} (h:q<L.length):flat enS ((cL pad L).take (q+1))=flat enS ((cL pad L).take q)++[.string (cp pad L q).enc]:=by
 have:(cL pad L)[q]? =some (cp pad L q).enc:=by
  unfold cL;rw[List.getElem?_map,cps_get h];rfl
 rw[flat_snoc this];rfl
theorem cL_len (pad:Int) (L:List ByteArray):(cL pad L).length=L.length:=by simp[cL,cps_len]
set_option maxHeartbeats 3200000 in
theorem columns_any (pad:Int) (a:Option Addr) (n c:Nat) (L:List ByteArray) (w:World) (hT:Tab 2 w) (hn:L.length=n) (hL:Seq enS 1 w a L) (hok:ColOk pad L):
 Calls Tryz.prog 54 #[.int .i64 pad,.slice a n c] w fun e w'=>Below w.heap.size w w'∧ ∃v',e= .returned (.tuple #[v',.int .i64 0])∧w'.ownsRow w.heap.size 9 1 v' n (flat enS (cL pad L)):=by
 have kc:=fcols_any pad a n c L w hT hn hL hok;obtain⟨R,hR⟩: ∃R:Ending→World→Prop,R=(fun e w'=>Below w.heap.size w w'∧ ∃v',e= .returned (.tuple #[v',.int .i64 0])∧w'.ownsRow w.heap.size 9 1 v' n (flat enS (cL pad L))):=⟨_,rfl⟩;rw[←hR];have HR:=Lib.hid hR;have HT:=Lib.hid hT;have HN:=Lib.hid hn;have HO:=Lib.hid hok;have hn9:n≤64:=by have:=hok.len;omega
 clear hR hT hn hL hok
 go_enter Tryz.func54,Tryz.ntmps54
 go_wp2_with fail
 (with_reducible refine(kc).mono ?_);rintro e1 W1 ⟨hb1,vp,rfl,hpl⟩
 obtain⟨pa,pc,rfl⟩:=own_form hpl;have HSQ:=Lib.hid (own_seq enFp_len hpl (by rw[cps_len,HN.out]));have HB1:=Lib.hid hb1;have hz1:=hb1.size;clear kc hpl hb1
 go_wp2_with fail
 go_loopw [6,24] (fun out iv wr=> ∃q:Nat,q≤n∧iv= .int .i64 q∧wr.ownsRow W1.heap.size 9 1 out q (flat enS ((cL pad L).take q))∧Below W1.heap.size W1 wr) (fun _ iv _=>n-(intOf iv).toNat)
 case atStart=>exact⟨0,by omega,rfl,by simpa [flat]using World.ownsRow_nil _ _ _ _,Below.refl _ _⟩
 case round=>
  obtain⟨q,hq,rfl,hown,hb⟩:=hrel;by_cases hqn:q<n
  ·have t1:decide (q<n)=true:=decide_eq_true hqn
   obtain⟨s,hs⟩: ∃s,L[q]? =some s:=⟨_,List.getElem?_eq_getElem (by rw[HN.out];exact hqn)⟩;have hck:=cp_chk HO.out hs;obtain⟨b0,o0,hab,hlt,hc⟩:=(HSQ.out.below (Nat.le_refl _) hb) q _ (cps_get (by rw[HN.out];exact hqn));subst hab;have k0:(0:Int)≤(q:Int):=Int.natCast_nonneg _;have k1:(q:Int)<(n:Int):=by omega
   have hsn:=cL_snoc (pad:=pad) (show q<L.length by rw[HN.out];exact hqn);have ke: ∀V,Tab 2 V→Calls Tryz.prog 92 #[.agg (cp pad L q).vals] V fun e w'=>e= .returned (.tuple #[.string (cp pad L q).enc,.int .i64 0])∧Below V.heap.size V w':=fun V h=>by have:=FcB.fenc_any (cp pad L q) V h;rw[hck]at this;exact this
   obtain⟨X,hX⟩: ∃X,(cp pad L q).enc=X:=⟨_,rfl⟩;rw[hX]at ke hsn;obtain⟨Q,hQ⟩: ∃Q,cp pad L q=Q:=⟨_,rfl⟩;rw[hQ]at ke hc;clear hX hQ hck hs;obtain⟨p0,p1,p2,⟨p3,p4,p5,p6⟩,p7⟩:=Q;unfold Fp.vals at ke;unfold enFp Fp.vals at hc;dsimp only at ke hc;have c0:=hc 0 _ rfl;have c1:=hc 1 _ rfl;have c2:=hc 2 _ rfl;have c3:=hc 3 _ rfl;have c4:=hc 4 _ rfl;have c5:=hc 5 _ rfl;have c6:=hc 6 _ rfl;have c7:=hc 7 _ rfl;rw[off_eq]at c0 c1 c2 c3 c4 c5 c6 c7;rw[Nat.add_zero]at c0;have HSN:=Lib.hid hsn;have hbs:=hb.size;have hbk:=Blk.new wr 193 #[.int .i64 p0,.int .i64 p1,.int .i64 p2,.int .i64 p3,.bool p4,.bool p5,.int .i64 p6,.string p7];have hb2:=hb.alloc hbs (.cells #[.int .i64 p0,.int .i64 p1,.int .i64 p2,.int .i64 p3,.bool p4,.bool p5,.int .i64 p6,.string p7] 193);have hown2:=own_below hown ((Below.refl wr.heap.size wr).alloc (Nat.le_refl _) (.cells #[.int .i64 p0,.int .i64 p1,.int .i64 p2,.int .i64 p3,.bool p4,.bool p5,.int .i64 p6,.string p7] 193));have HKE:=Lib.hid (ke _ ((HT.out.be HB1.out).below hb2 (Nat.lt_of_lt_of_le HT.out.lt hz1)));clear hc hsn hown ke hlt;have d0:=Blk.cell (hbk) 0 (v:= .int .i64 p0) rfl;have d1:=Blk.cell (hbk) 1 (v:= .int .i64 p1) rfl;have d2:=Blk.cell (hbk) 2 (v:= .int .i64 p2) rfl;have d3:=Blk.cell (hbk) 3 (v:= .int .i64 p3) rfl;have d4:=Blk.cell (hbk) 4 (v:= .bool p4) rfl;have d5:=Blk.cell (hbk) 5 (v:= .bool p5) rfl;have d6:=Blk.cell (hbk) 6 (v:= .int .i64 p6) rfl;have d7:=Blk.cell (hbk) 7 (v:= .string p7) rfl
   go_wp2_with fail
   (with_reducible refine(HKE.out).mono ?_);rintro e1 W2 ⟨rfl,hb3⟩
   have hown3:=own_below hown2 hb3;have hb4:=hb2.trans (hb3.mono (Nat.le_trans hbs (by simp)));have hz4:=hb4.size;clear HKE hown2 hb3 hbk hb2 d0 d1 d2 d3 d4 d5 d6 d7 c0 c1 c2 c3 c4 c5 c6 c7
   go_wp2_with (at_builtin;refine ApG.wpList_appG rfl _ _ rfl elemS rfl (hown3.alloc (.cells #[.string X] 9)) rfl rfl (blk_news (Blk.new W2 9 #[.string X])) (by simp[Value.oneCell']) (by omega) (by unfold maxLen;omega) (by simp;omega) ?_)
   intro v9 w8 hown9 hg9 hl9;have hb5:=(hb4.alloc hz4 (.cells #[.string X] 9)).trans (below_of_only hg9 (by simp;omega) (fun k hk=>(hown3.lt k hk).1));have hown10:w8.ownsRow W1.heap.size 9 1 v9 (q+1) (flat enS ((cL pad L).take (q+1))):=by rw[HSN.out];exact hown9
   obtain⟨va,vc,rfl⟩:=own_form hown10;have HO2:=Lib.hid hown10;clear hown9 hg9 hl9 hown3 hb4 hown10
   go_wp2_with fail
   go_roundw
   case rel=>exact⟨q+1,by omega,by go_num,HO2.out,hb5⟩
   case measure=>simp[intOf];omega
  ·obtain rfl:q=n:=by omega
   have t1:decide (q<q)=false:=by simp
   rw[List.take_of_length_le (by rw[cL_len,HN.out];exact Nat.le_refl _)]at hown;obtain⟨oa,oc,rfl⟩:=own_form hown;have HF:=Lib.hid (show Below w.heap.size w wr∧wr.ownsRow w.heap.size 9 1 (.slice oa q oc) q (flat enS (cL pad L))from⟨HB1.out.trans (hb.mono hz1),ApG.own_base hown hz1⟩);clear hown hb
   go_wp2_with fail
   rw[HR.out];exact⟨HF.out.1,_,rfl,HF.out.2⟩
end Go.Proofs.YtibjkhepedfpiaaGreatDoor.BuD
namespace Go.Proofs.YtibjkhepedfpiaaGreatDoor.BuE
open Go Go.RowKit Q Mem Rg Ap St CrB Tab TmA TbM FrA FrB FrC BuC BuD
structure Slc (w:World) (a:Option Addr) (n c:Nat) (L:List ByteArray):Prop where
 s:Seq enS 1 w a L
 len:L.length=n
 nil:a=none→n=0∧c=0
 form: ∀a',a=some a'→ ∃b o,a'=⟨b,o,none⟩
theorem enS_one (x:ByteArray):(enS x).length=1:=rfl
theorem enS_cell (x:ByteArray): ∀u∈enS x,u.oneCell'=true:=fun u hu=>by
 obtain rfl:=List.mem_singleton.1 hu;rfl
theorem own_slc {w:World} {B n:Nat} {v:Value} {L:List ByteArray} (h:w.ownsRow B 9 1 v n (flat enS L)) (hn:L.length=n): ∃a c,v= .slice a n c∧Slc w a n c L:=by
 obtain⟨a,c,rfl⟩:=own_form h;refine⟨a,c,rfl,own_seq enS_one h hn,hn,fun ha=>?_,fun a' ha=>?_⟩
 ·rcases h.2 with⟨e,e0⟩|⟨g,cap,cur,e,_⟩
  ·injection e with _ _ e2
   exact⟨e0,e2⟩
  ·injection e with e1
   rw[ha]at e1;cases e1
 ·rcases h.2 with⟨e,_⟩|⟨g,cap,cur,e,_⟩
  ·injection e with e1
   rw[ha]at e1;cases e1
  ·injection e with e1
   rw[ha]at e1;injection e1 with e1
   exact⟨g,0,e1⟩
theorem Slc.below {w w':World} {a:Option Addr} {n c:Nat} {L:List ByteArray} (h:Slc w a n c L) (hb:Below w.heap.size w w'):Slc w' a n c L:=⟨h.s.below (Nat.le_refl _) hb,h.len,h.nil,h.form⟩
set_option maxRecDepth 100000
set_option maxHeartbeats 1600000 in
theorem joined_any (g:Nat) (a1 a2:Option Addr) (n1 c1 n2 c2:Nat) (L1 L2:List ByteArray) (w:World) (hb:Blk w g 34 #[.slice a1 n1 c1,.slice a2 n2 c2]) (h1:Slc w a1 n1 c1 L1) (h2:Slc w a2 n2 c2 L2) (hl:n1≤1000000) (hl2:n2≤1000000):
 Calls Tryz.prog 56 #[.slice (some ⟨g,0,none⟩) 2 2] w fun e w'=>Below w.heap.size w w'∧ ∃v',e= .returned v'∧w'.ownsRow w.heap.size 9 1 v' (n1+n2) (flat enS (L1++L2)):=by
 obtain⟨R,hR⟩: ∃R:Ending→World→Prop,R=(fun e w'=>Below w.heap.size w w'∧ ∃v',e= .returned v'∧w'.ownsRow w.heap.size 9 1 v' (n1+n2) (flat enS (L1++L2))):=⟨_,rfl⟩;rw[←hR];have HR:=Lib.hid hR;have H1:=Lib.hid h1;have H2:=Lib.hid h2;have HB:=Lib.hid hb;have d0:=Blk.cell (hb) 0 (v:= .slice a1 n1 c1) rfl;have d1:=Blk.cell (hb) 1 (v:= .slice a2 n2 c2) rfl;clear h1 h2 hR hb
 go_enter Tryz.func56,Tryz.ntmps56
 go_wp2_with fail
 refine wp_loop_rounds 3 ?_;rw[rounds_succ]
 go_wp2_with (at_builtin;refine wpList_appS (en:=enS) (A:=[]) (L:=L1) (n:=0) (base:=w.heap.size) rfl _ _ rfl enS_one enS_cell elemS rfl rfl (World.ownsRow_nil _ _ _ _) rfl H1.out.len H1.out.nil H1.out.s H1.out.form (by omega) (by unfold maxLen;omega) (Nat.le_refl _) ?_)
 intro v1 w1 hown1 hb1;have HO1:=Lib.hid hown1;have HB1:=Lib.hid hb1;have e1:=Blk.cell (Blk.below HB.out hb1 (Blk.lt HB.out)) 1 (v:= .slice a2 n2 c2) rfl;obtain⟨x1,y1,rfl⟩:=own_form hown1;clear hown1 hb1 d0 d1
 go_wp2_with fail
 rw[rounds_succ];have hz:=HB1.out.size
 go_wp2_with (at_builtin;go_loud (refine wpList_appS (en:=enS) (A:=L1) (L:=L2) (base:=w.heap.size) rfl _ _ rfl enS_one enS_cell elemS rfl H1.out.len HO1.out rfl H2.out.len H2.out.nil (H2.out.below HB1.out).s H2.out.form (by omega) (by unfold maxLen;omega) hz ?_))
 intro v2 w2 hown2 hb2;obtain⟨x2,y2,rfl⟩:=own_form hown2;have HO2:=Lib.hid (And.intro (HB1.out.trans hb2) hown2);clear hown2 hb2
 go_wp2_with fail
 rw[rounds_succ]
 go_wp2_with fail
 rw[HR.out];exact⟨HO2.out.1,_,rfl,HO2.out.2⟩
def mkL (S:Fr) (mac:Int):List ByteArray:=gL S.L mac (decide (64-S.K=0))++cL (padN S:Nat) (parL S (64-S.K))
structure MkOk (w:World) (B gf gr:Nat) (v:Value) (S:Fr) (mac:Int) (e:Ending) (w':World):Prop where
 fr:FrIn w' B gf gr v (parS S (64-S.K))
 kept:Kept (footF gf gr v) w w'
 ok:0≤mac∧mac≤65535→ ∃v',e= .returned (.tuple #[v',.int .i64 0])∧w'.ownsRow w.heap.size 9 1 v' (mkL S mac).length (flat enS (mkL S mac))
 bad: ¬(0≤mac∧mac≤65535)→e= .returned (.tuple #[.slice none 0 0,.int .i64 15])
theorem parS_same (S:Fr) (k:Nat):(parS S k).L=S.L∧(parS S k).used=S.used∧(parS S k).R=S.R∧(parS S k).C=S.C∧(parS S k).K=S.K:=by
 unfold parS
 split
 ·exact⟨rfl,rfl,rfl,rfl,rfl⟩
 ·unfold freshS
  split<;>exact⟨rfl,rfl,rfl,rfl,rfl⟩
theorem parL_len (S:Fr) (k:Nat):(parL S k).length=k:=by simp[parL]
theorem mkL_len (S:Fr) (mac:Int):(mkL S mac).length=S.L.length+(64-S.K):=by
 unfold mkL;rw[List.length_append,gL_len,cL_len,parL_len]
set_option maxHeartbeats 3200000 in
theorem make_any (w:World) (B gf gr:Nat) (v:Value) (S:Fr) (mac:Int) (hT:Tab 2 w) (hG:2<B) (h:FrIn w B gf gr v S) (hok:OkF S) (hK:S.K≤64) (hg:GoodL S.L) (h0:S.L.length≠0) (hu:S.used≠0) (hc:ColOk (padN S:Nat) (parL S (64-S.K))):
 Calls Tryz.prog 20 #[.pointer (some ⟨gf,0,none⟩),.int .i64 mac] w (MkOk w B gf gr v S mac):=by
 have ku:=used_any w B gf gr v S h;have kp:=parity_any w B gf gr v S h hok hK;have hBw:B≤w.heap.size:=by have:=h.ge gf (Or.inl rfl);omega
 have hge:=fun i hi=>(h.ge i hi).1;obtain⟨R,hR⟩: ∃R:Ending→World→Prop,R=MkOk w B gf gr v S mac:=⟨_,rfl⟩;rw[←hR];have HR:=Lib.hid hR;have tu:((S.used:Int)==0)=false:=beq_eq_false_iff_ne.2 (by omega);have tu':(S.used==0)=false:=beq_eq_false_iff_ne.2 hu;have hu9:S.used≤191*S.R:=by have h1:=hok.u;have h2:=hok.C;have:=Nat.mul_le_mul_left S.R h2;rw[Nat.mul_comm 191];omega
 have HPS:=Lib.hid (parS_same S (64-S.K));have HOK2:=Lib.hid (par_ok hok (64-S.K));have hpl0:=parL_len S (64-S.K);have hmk:mkL S mac=gL S.L mac (decide (64-S.K=0))++cL (padN S:Nat) (parL S (64-S.K)):=rfl;have hn9:S.L.length≤200000:=by have h1:=hok.n;have h2:=hok.u;have h3:=hok.C;have h4:=hok.R;have:S.R*S.C≤1024*191:=Nat.mul_le_mul h4 h3;omega
 have HU:=Lib.hid (show(parS S (64-S.K)).R≤1024∧(parS S (64-S.K)).used≤191*(parS S (64-S.K)).R∧padN (parS S (64-S.K))=padN S from by
  obtain⟨e1,e2,e3,e4,e5⟩:=parS_same S (64-S.K);refine⟨by rw[e3];exact hok.R,by rw[e2,e3];exact hu9,?_⟩;unfold padN;rw[e2,e3])
 have HGL:=Lib.hid (show GoodL (parS S (64-S.K)).L∧(parS S (64-S.K)).L.length≠0 from by rw[(parS_same S (64-S.K)).1];exact⟨hg,h0⟩);have HL0:=Lib.hid (show(parS S (64-S.K)).L=S.L from(parS_same S (64-S.K)).1);obtain⟨KK,hKK⟩: ∃k,64-S.K=k:=⟨_,rfl⟩;have hKK9:KK≤64:=by omega
 rw[hKK]at kp HPS HOK2 hpl0 hmk HU HGL HL0 hc;obtain⟨PL,hPL⟩: ∃l,parL S KK=l:=⟨_,rfl⟩;rw[hPL]at kp hpl0 hmk hc;obtain⟨S2,hS2⟩: ∃s,parS S KK=s:=⟨_,rfl⟩;rw[hS2]at kp HPS HOK2 HU HGL HL0;obtain⟨LA,hLA⟩: ∃b,decide (KK=0)=b:=⟨_,rfl⟩;rw[hLA]at hmk
 have tk:((KK:Int)==0)=LA:=by
  rw[←hLA];by_cases h:KK=0
  ·rw[decide_eq_true h];exact beq_iff_eq.2 (by omega)
  ·rw[decide_eq_false h];exact beq_eq_false_iff_ne.2 (by omega)
 obtain⟨U,hU⟩: ∃u,S.used=u:=⟨_,rfl⟩;rw[hU]at ku tu tu';have HT:=Lib.hid (And.intro hT hG);have HC:=Lib.hid hc;have HMK:=Lib.hid hmk;have HML:=Lib.hid (show(mkL S mac).length=S.L.length+KK from by rw[mkL_len,hKK]);have HFR:=Lib.hid (show parS S (64-S.K)=S2 from by rw[hKK];exact hS2);have HPL:=Lib.hid hpl0;have HKP:=Lib.hid kp;have HGE:=Lib.hid hge;clear hU hu hT hok hg h0 hR h kp hc hu9 hmk hpl0 hge hPL hS2 hLA hKK HPS
 go_enter Tryz.func20,Tryz.ntmps20
 go_wp2_with fail
 (with_reducible refine(ku).mono ?_);rintro e1 W0 ⟨rfl,rfl⟩
 go_wp2_with fail
 (with_reducible refine(HKP.out).mono ?_);rintro e1 W1 ⟨hf1,hk1,vp,rfl,hpl⟩
 obtain⟨pa,pc,rfl,hsl⟩:=own_slc hpl HPL.out;have hbB:=Lib.hid (hk1.be hBw HGE.out);have HK1:=Lib.hid hk1;have HF1:=Lib.hid hf1;have HSL:=Lib.hid hsl;have kg:=grams_any W1 B gf gr v S2 mac LA hf1 HOK2.out HGL.out.1 HGL.out.2;rw[HL0.out]at kg;have hz1:=hk1.size;clear ku HKP hpl hk1 hf1 hsl;by_cases hm:0≤mac∧mac≤65535
 ·have kg2:Calls Tryz.prog 53 #[.pointer (some ⟨gf,0,none⟩),.int .i64 mac,.bool LA] W1 fun e w'=>Below W1.heap.size W1 w'∧ ∃v',e= .returned (.tuple #[v',.int .i64 0])∧w'.ownsRow W1.heap.size 9 1 v' S.L.length (flat enS (gL S.L mac LA)):=
   kg.mono (fun e w' ⟨h1,v',h2,h3,_⟩=>⟨h1,v',by rw[h2,if_pos hm],h3 hm⟩)
  have HM:=Lib.hid hm;clear kg hm
  go_wp2_with fail
  (with_reducible refine(kg2).mono ?_);rintro e1 W2 ⟨hb2,v1,rfl,ho1⟩
  obtain⟨ga,gc,rfl,hsg⟩:=own_slc ho1 (gL_len _ _ _);have HF2:=Lib.hid (HF1.out.below hb2);have kpd:=padding_any W2 B gf gr v S2 HF2.out HU.out.1 HU.out.2.1;rw[HU.out.2.2]at kpd;have HS2:=Lib.hid (And.intro hsg (HSL.out.below hb2));have HB2:=Lib.hid hb2;have hz2:=hb2.size;clear kg2 ho1 hsg hb2
  go_wp2_with fail
  (with_reducible refine(kpd).mono ?_);rintro e1 W3 ⟨rfl,hb3⟩
  have HS3:=Lib.hid (And.intro (HS2.out.1.below hb3) (HS2.out.2.below hb3));have HF3:=Lib.hid (HF2.out.below hb3);have hz3:=hb3.size;have hb23:=Lib.hid (HB2.out.trans (hb3.mono hz2));have HT3:=Lib.hid (((HT.out.1.below hbB.out HT.out.2).below hb23.out (Nat.lt_of_lt_of_le HT.out.2 (Nat.le_trans hBw hz1))));have kcl:=columns_any (padN S:Nat) pa KK pc PL W3 HT3.out HPL.out HS3.out.2.s HC.out;clear kpd hb3
  go_wp2_with fail
  (with_reducible refine(kcl).mono ?_);rintro e1 W4 ⟨hb4,v2,rfl,ho2⟩
  obtain⟨ca,cc,rfl,hsc⟩:=own_slc ho2 (by rw[cL_len,HPL.out]);have hz4:=hb4.size
  have HS4:=Lib.hid (show Slc (W4.alloc (.cells #[.slice ga S.L.length gc,.slice ca KK cc] 34)) ga S.L.length gc (gL S.L mac LA)∧Slc (W4.alloc (.cells #[.slice ga S.L.length gc,.slice ca KK cc] 34)) ca KK cc (cL (padN S:Nat) PL)from
   ⟨(HS3.out.1.below hb4).below ((Below.refl _ _).alloc (Nat.le_refl _) _),hsc.below ((Below.refl _ _).alloc (Nat.le_refl _) _)⟩)
  have kj:=joined_any W4.heap.size ga ca S.L.length gc KK cc (gL S.L mac LA) (cL (padN S:Nat) PL) (W4.alloc (.cells #[.slice ga S.L.length gc,.slice ca KK cc] 34)) (Blk.new _ _ _) HS4.out.1 HS4.out.2 (by omega) (by omega);have HF5:=Lib.hid ((HF3.out.below hb4).below ((Below.refl _ _).alloc (Nat.le_refl _) (.cells #[.slice ga S.L.length gc,.slice ca KK cc] 34)));have hb25:=Lib.hid ((hb23.out.trans (hb4.mono (Nat.le_trans hz2 hz3))).alloc (Nat.le_trans (Nat.le_trans hz2 hz3) hz4) (.cells #[.slice ga S.L.length gc,.slice ca KK cc] 34));clear kcl ho2 hsc hb4
  go_wp2_with fail
  (with_reducible refine(kj).mono ?_);rintro e1 W5 ⟨hb5,v5,rfl,ho5⟩
  obtain⟨ja,jc,rfl⟩:=own_form ho5;have hzz:w.heap.size≤(W4.alloc (.cells #[.slice ga S.L.length gc,.slice ca KK cc] 34)).heap.size:=by simp;omega
  have HFin:=Lib.hid (show FrIn W5 B gf gr v S2∧Kept (footF gf gr v) w W5∧W5.ownsRow w.heap.size 9 1 (.slice ja (S.L.length+KK) jc) (S.L.length+KK) (flat enS (gL S.L mac LA++cL (padN S:Nat) PL))from
   ⟨HF5.out.below hb5,HK1.out.then ((hb25.out.trans (hb5.mono (by simp;omega))).mono hz1),ApG.own_base ho5 hzz⟩)
  clear kj ho5 hb5 hzz
  go_wp2_with fail
  rw[HR.out];exact⟨by rw[HFR.out];exact HFin.out.1,HFin.out.2.1,fun _=>⟨_,rfl,by rw[HML.out,HMK.out];exact HFin.out.2.2⟩,fun h=>absurd HM.out h⟩
 ·have kg2:Calls Tryz.prog 53 #[.pointer (some ⟨gf,0,none⟩),.int .i64 mac,.bool LA] W1 fun e w'=>e= .returned (.tuple #[.slice none 0 0,.int .i64 15])∧Below W1.heap.size W1 w':=
   kg.mono (fun e w' ⟨h1,v',h2,_,h4⟩=>⟨by rw[h2,if_neg hm,h4 hm],h1⟩)
  have HM:=Lib.hid hm;clear kg hm
  go_wp2_with fail
  (with_reducible refine(kg2).mono ?_);rintro e1 W2 ⟨rfl,hb2⟩
  have HFin:=Lib.hid (And.intro (HF1.out.below hb2) (HK1.out.then (hb2.mono hz1)));clear kg2 hb2
  go_wp2_with fail
  rw[HR.out];exact⟨by rw[HFR.out];exact HFin.out.1,HFin.out.2,fun h=>absurd h HM.out,fun _=>rfl⟩
end Go.Proofs.YtibjkhepedfpiaaGreatDoor.BuE
namespace Go.Proofs.YtibjkhepedfpiaaGreatDoor.BuF
open Go St Tab TmA BuA BuB BuC BuD BuE FrA FrB FrC LaH
theorem first_byte {t:ByteArray} {c:UInt8} {l:List UInt8} (h:bl t=c::l):0<t.size∧at' t 0=(c.toNat:Int):=by
 refine⟨by rw[←bl_len,h];simp,?_⟩;unfold at';unfold bl at h;rw[←Array.getElem?_toList,h];rfl
theorem isM_enc {p:MpA.Mp} (h:p.chk=0):isM p.enc=true:=by
 obtain⟨c,hc,_⟩:=MpP.enc_bl h;obtain⟨h1,h2⟩:=first_byte (t:=p.enc) (c:=UInt8.ofNat 62) hc;unfold isM;exact decide_eq_true ⟨h1,by rw[h2];rfl⟩
theorem isF_enc {p:FcA.Fp} (h:p.chk=0):isF p.enc=true:=by
 obtain⟨c,hc,_⟩:=FcP.enc_bl h;obtain⟨h1,h2⟩:=first_byte (t:=p.enc) (c:=UInt8.ofNat 120) hc;unfold isF;exact decide_eq_true ⟨h1,by rw[h2];rfl⟩
theorem isM_not {t:ByteArray} (h:isF t=true):isM t=false:=by
 cases hm:isM t with
 |false=>rfl
 |true=>rw[not_both hm]at h;cases h
theorem tm_m {p:MpA.Mp} (h:p.chk=0):tmE p.enc=0∧tmT p.enc=p.times:=by
 obtain⟨h1,h2⟩:=MpP.md_enc h;exact⟨by unfold tmE;rw[isM_enc h,if_pos rfl,h1],by unfold tmT;rw[isM_enc h,if_pos rfl,h2]⟩
theorem tm_f {p:FcA.Fp} (h:p.chk=0):tmE p.enc=0∧tmT p.enc=p.times:=by
 obtain⟨h1,h2⟩:=FcP.fd_enc h;exact⟨by unfold tmE;rw[isM_not (isF_enc h),isF_enc h,if_neg (by decide),if_pos rfl,h1],by unfold tmT;rw[isM_not (isF_enc h),isF_enc h,if_neg (by decide),if_pos rfl,h2]⟩
theorem tm_part {t:ByteArray} (h:tmE t=0):(isM t=true∧ ∃p:MpA.Mp,p.chk=0∧p.enc=t)∨(isM t=false∧isF t=true∧ ∃p:FcA.Fp,p.chk=0∧p.enc=t):=by
 unfold tmE at h
 cases hM:isM t with
 |true=>
  rw[hM,if_pos rfl]at h;exact Or.inl ⟨rfl,_,MpP.enc_md h⟩
 |false=>
  rw[hM,if_neg (by decide)]at h
  cases hF:isF t with
  |true=>
   rw[hF,if_pos rfl]at h;exact Or.inr ⟨rfl,rfl,_,FcP.enc_fd h⟩
  |false=>rw[hF,if_neg (by decide)]at h;cases h
theorem st_m {p:MpA.Mp} (h:p.chk=0) (d:Int):stE p.enc d=(MpD.atP p ⟨d,p.times.table,p.times.frame,p.times.at_⟩).chk∧stS p.enc d=(MpD.atP p ⟨d,p.times.table,p.times.frame,p.times.at_⟩).enc:=by
 obtain⟨h1,h2⟩:=tm_m h;obtain⟨h3,h4⟩:=MpP.md_enc h;exact⟨by unfold stE tmX MpD.mwE;rw[h1,if_neg (by decide),isM_enc h,if_pos rfl,h3,if_pos rfl,h2,h4],by unfold stS tmX MpD.mwS;rw[h1,if_neg (by decide),isM_enc h,if_pos rfl,h3,if_pos rfl,h2,h4]⟩
theorem st_f {p:FcA.Fp} (h:p.chk=0) (d:Int):stE p.enc d=(FcD.atP p ⟨d,p.times.table,p.times.frame,p.times.at_⟩).chk∧stS p.enc d=(FcD.atP p ⟨d,p.times.table,p.times.frame,p.times.at_⟩).enc:=by
 obtain⟨h1,h2⟩:=tm_f h;obtain⟨h3,h4⟩:=FcP.fd_enc h;exact⟨by unfold stE tmX FcD.fwE;rw[h1,if_neg (by decide),isM_not (isF_enc h),if_neg (by decide),h3,if_pos rfl,h2,h4],by unfold stS tmX FcD.fwS;rw[h1,if_neg (by decide),isM_not (isF_enc h),if_neg (by decide),h3,if_pos rfl,h2,h4]⟩
theorem chk_m {p:MpA.Mp} (h:p.chk=0) (d:Int):(MpD.atP p ⟨d,p.times.table,p.times.frame,p.times.at_⟩).chk=if 0≤d∧d≤4095 then 0 else 15:=by
 obtain⟨h1,h2,h3⟩:=MpA.mchk_zero h;by_cases hd:0≤d∧d≤4095
 ·rw[if_pos hd]
  unfold MpA.Mp.chk MpD.atP;rw[if_pos ⟨h1,⟨hd,h2.2⟩⟩];exact h3
 ·rw[if_neg hd]
  unfold MpA.Mp.chk MpD.atP;rw[if_neg (fun x=>hd x.2.1)]
theorem chk_f {p:FcA.Fp} (h:p.chk=0) (d:Int):(FcD.atP p ⟨d,p.times.table,p.times.frame,p.times.at_⟩).chk=if 0≤d∧d≤4095 then 0 else 15:=by
 obtain⟨h1,h2,h3⟩:=FcA.fchk_zero h;by_cases hd:0≤d∧d≤4095
 ·rw[if_pos hd]
  unfold FcA.Fp.chk FcD.atP;rw[if_pos ⟨h1,⟨hd,h2.2⟩⟩];exact if_pos h3
 ·rw[if_neg hd]
  unfold FcA.Fp.chk FcD.atP;rw[if_neg (fun x=>hd x.2.1)]
structure StOk (t:ByteArray) (d:Int):Prop where
 e:stE t d=0
 te:tmE (stS t d)=0
 tt:tmT (stS t d)=tmX t d
 be:stE (stS t d) (tmT t).delta=0
 bs:stS (stS t d) (tmT t).delta=t
 sz:(stS t d).size=t.size
theorem stamp_ok {t:ByteArray} {d:Int} (h:tmE t=0) (hd:0≤d∧d≤4095):StOk t d:=by
 rcases tm_part h with⟨_,p,hp,rfl⟩|⟨_,_,p,hp,rfl⟩
 ·have c0:=chk_m hp d
  rw[if_pos hd]at c0;obtain⟨e1,e2⟩:=st_m hp d;obtain⟨e3,e4⟩:=tm_m hp;obtain⟨e5,e6⟩:=tm_m c0;obtain⟨e7,e8⟩:=st_m c0 p.times.delta;have eq:MpD.atP (MpD.atP p ⟨d,p.times.table,p.times.frame,p.times.at_⟩) ⟨p.times.delta,(MpD.atP p ⟨d,p.times.table,p.times.frame,p.times.at_⟩).times.table,(MpD.atP p ⟨d,p.times.table,p.times.frame,p.times.at_⟩).times.frame,(MpD.atP p ⟨d,p.times.table,p.times.frame,p.times.at_⟩).times.at_⟩=p:=rfl;rw[eq]at e7 e8;exact⟨by rw[e1,c0],by rw[e2,e5],by rw[e2,e6];unfold tmX;rw[e4];rfl,by rw[e4,e2,e7,hp],by rw[e4,e2,e8],by rw[e2,MpP.enc_size c0,MpP.enc_size hp];rfl⟩
 ·have c0:=chk_f hp d
  rw[if_pos hd]at c0;obtain⟨e1,e2⟩:=st_f hp d;obtain⟨e3,e4⟩:=tm_f hp;obtain⟨e5,e6⟩:=tm_f c0;obtain⟨e7,e8⟩:=st_f c0 p.times.delta;have eq:FcD.atP (FcD.atP p ⟨d,p.times.table,p.times.frame,p.times.at_⟩) ⟨p.times.delta,(FcD.atP p ⟨d,p.times.table,p.times.frame,p.times.at_⟩).times.table,(FcD.atP p ⟨d,p.times.table,p.times.frame,p.times.at_⟩).times.frame,(FcD.atP p ⟨d,p.times.table,p.times.frame,p.times.at_⟩).times.at_⟩=p:=rfl;rw[eq]at e7 e8;exact⟨by rw[e1,c0],by rw[e2,e5],by rw[e2,e6];unfold tmX;rw[e4];rfl,by rw[e4,e2,e7,hp],by rw[e4,e2,e8],by rw[e2,FcP.enc_size c0,FcP.enc_size hp];rfl⟩
end Go.Proofs.YtibjkhepedfpiaaGreatDoor.BuF
namespace Go.Proofs.YtibjkhepedfpiaaGreatDoor.BuG
open Go Go.RowKit Q Mem Rg Ap St CrB Tab TmA FrA FrB FrC LaA LaH BuA BuB BuC BuD BuE BuF
set_option maxRecDepth 100000
end Go.Proofs.YtibjkhepedfpiaaGreatDoor.BuG
