import Derived.Test.YtibjkhepedfpiaaGreatDoorSgPkH
namespace Go.Proofs.YtibjkhepedfpiaaGreatDoor.PyD
open Go Go.RowKit Q Mem Rg Ap St BiH SeG SeI PkP
theorem at0_str (l:List UInt8) (k:Nat):at0 (str l) k=(l.getD k 0).toNat:=by
 unfold at0 str;simp[List.getD]
def zpk:Array Value:= #[.int .i64 0,.bool false,.int .i64 0,.bool false,.string ⟨#[]⟩]
set_option maxRecDepth 100000
set_option maxHeartbeats 1600000 in
theorem rdec_any (pid count:Nat) (start:Bool) (body:ByteArray) (w:World) (hp:pid<8192) (hc:count<16) (hb:body.size=184∨body.size=183):
 Calls Tryz.prog 42 #[.string (str (pkB pid start count (bl body)))] w fun e w'=>e= .returned (.tuple #[.agg #[.int .i64 (pid:Int),.bool start,.int .i64 (count:Int),.bool false,.string body],.int .i64 0])∧Below w.heap.size w w':=by
 rcases hb with hb|hb
 ·have hsz:(str (pkB pid start count (bl body))).size=188:=by rw[str_size];exact pkB_len (by rw[bl_len];exact Or.inl hb)
  obtain⟨f1,f2,f3,f4,f5⟩:=pkB_front (start:=start) hp hc (body:=bl body) (by rw[bl_len];exact Or.inl hb);have fb:=pkB_body (pid:=pid) (count:=count) (start:=start) (body:=bl body);rw[bl_len,hb]at f5 fb;have f0:at0 (str (pkB pid start count (bl body))) 0=71:=by rw[at0_str];rfl
  rw[if_pos rfl]at f5 fb;rw[←at0_str,←at0_str]at f1;rw[←at0_str]at f2 f3 f4 f5;obtain⟨s,hs⟩: ∃s,str (pkB pid start count (bl body))=s:=⟨_,rfl⟩;have hbs:bl s=pkB pid start count (bl body):=by rw[←hs,bl_str]
  rw[hs]at hsz f0 f1 f2 f3 f4 f5 ⊢;have i0: ∀V:World,(Instr.index 9 (.string s) (.int .i64 0)).run Tryz.prog V= .ok (.int .u8 71) V:=fun V=>by have:=idx_at s 0 (by omega) V;rw[at0_at,f0]at this;exact this
  have i1: ∀V:World,(Instr.index 9 (.string s) (.int .i64 1)).run Tryz.prog V= .ok (.int .u8 (at0 s 1:Int)) V:=fun V=>idx_at s 1 (by omega) V;have i2: ∀V:World,(Instr.index 9 (.string s) (.int .i64 2)).run Tryz.prog V= .ok (.int .u8 (at0 s 2:Int)) V:=fun V=>idx_at s 2 (by omega) V;have i3: ∀V:World,(Instr.index 9 (.string s) (.int .i64 3)).run Tryz.prog V= .ok (.int .u8 (at0 s 3:Int)) V:=fun V=>idx_at s 3 (by omega) V;have l1:=at0_lt s 1;have l2:=at0_lt s 2;have l3:=at0_lt s 3;have l4:=at0_lt s 4;obtain⟨b1,e1⟩: ∃x,at0 s 1=x:=⟨_,rfl⟩;obtain⟨b2,e2⟩: ∃x,at0 s 2=x:=⟨_,rfl⟩;obtain⟨b3,e3⟩: ∃x,at0 s 3=x:=⟨_,rfl⟩;rw[e1]at i1 l1 f1 f2 f3;rw[e2]at i2 l2 f1;rw[e3]at i3 l3 f4 f5;have q1:=wrap63 b1 (by omega);have q2:=wrap63 b2 (by omega);have q3:=wrap63 b3 (by omega);have g1:(b1:Int)%32*256+(b2:Int)=(pid:Int):=by omega
  have g2:((b1:Int)/64%2==1)=start:=by
   cases start
   ·have:(b1:Int)/64%2=0:=by have:=f2;simp at this;omega
    rw[this];rfl
   ·have:(b1:Int)/64%2=1:=by have:=f2;simp at this;omega
    rw[this];rfl
  have g3:((b1:Int)/128==1)=false:=beq_eq_false_iff_ne.2 (by omega);have g4:(b3:Int)%16=(count:Int):=by omega
  have g5:(b3:Int)/16%4=1:=by omega
  have z1:(b1:Int)≤255:=by omega
  have z2:(b2:Int)≤255:=by omega
  have z3:(b3:Int)≤255:=by omega
  have zp:(pid:Int)≤8191:=by omega
  have zc:(count:Int)≤15:=by omega
  have t1:decide ((s.size:Int)<188)=false:=decide_eq_false (by omega);have t2:decide ((188:Int)<(s.size:Int))=false:=decide_eq_false (by omega);have t1':decide (s.size<188)=false:=decide_eq_false (by omega);have t2':decide (188<s.size)=false:=decide_eq_false (by omega);have hz8:8≤s.size:=by omega
  have hz9:(8:Int)≤(s.size:Int):=by omega
  have HB:=Lib.hid (bk1 w 104 zpk);clear f1 f2 f3 f4 f5 e1 e2 e3 l1 l2 l3 f0 hs hsz;have HX:=Lib.hid (show s.extract 4 s.size=body from bl_inj (by rw[RdQ.ext_from,hbs];exact fb));have i4: ∀V:World,(Instr.index 9 (.string s) (.int .i64 4)).run Tryz.prog V= .ok (.int .u8 (at0 s 4:Int)) V:=fun V=>idx_at s 4 (by omega) V;obtain⟨b4,e4⟩: ∃x,at0 s 4=x:=⟨_,rfl⟩;rw[e4]at i4 l4;have q4:=wrap63 b4 (by omega);have z4:(b4:Int)≤255:=by omega
  clear e4 l4 hbs fb hb
  go_enter Tryz.func42,Tryz.ntmps42
  go_wp2_with fail
  refine Go.Proofs.YtibjkhepedfpiaaGreatDoor.Rg.region_new [(25,newB 104 zpk (w.heap.size+1))] 26 (by kernel_rfl) (by kernel_rfl) (by kernel_rfl) (lk_cons newB_inh lk_nil) (lk_cons newB_mono lk_nil) ?_;intro σ hσ;simp only[List.take_succ_cons,List.take_zero,List.drop_succ_cons,List.drop_zero];refine Go.Proofs.YtibjkhepedfpiaaGreatDoor.Rg.wpN_take 25 (by kernel_rfl) (by kernel_rfl) (by kernel_rfl) ?_;simp only[List.take_succ_cons,List.take_zero,List.drop_succ_cons,List.drop_zero]
  repeat (go_big_quiet_step (fail))
  refine wpQuiet_nil ?_;refine wpN_sp _ rfl (by kernel_rfl) (spAt_newB 104 zpk (by simp) (fun _=>rfl)) ?_;simp only[Act.put,List.setIfInBounds_toArray,List.set_cons_zero,List.set_cons_succ];refine wpN_nil ?_;rintro w9 ⟨pq,rfl⟩ hpp;obtain⟨gx,hgx,hgl,hgb⟩:=hpp 25 _ rfl;rw[hgx];refine wpList_store_blk (cs':= #[.int .i64 (pid:Int),.bool start,.int .i64 (count:Int),.bool false,.string ⟨#[]⟩]) rfl 104 _ _ rfl rfl rfl hgb (by kernel_rfl) (by kernel_rfl) (by kernel_rfl) (by kernel_rfl) ?_;intro V hV hgr hsz;have HB4:=HB.out.px pq
  have HV:=Lib.hid (show Bk w V [(gx,104,#[.int .i64 (pid:Int),.bool start,.int .i64 (count:Int),.bool false,.string ⟨#[]⟩]),(w.heap.size,104,zpk)]from⟨HB4.be.trans (below_of_only hgr HB4.size (fun k hk=>by injection hk with hk;omega)),fun x hx=>by
   rcases List.mem_cons.1 hx with rfl|hx
   ·exact hV
   ·rcases List.mem_cons.1 hx with rfl|hx
    ·exact Blk.grown (HB4.nth 0 rfl) hgr (by simp;omega)
    ·cases hx⟩)
  clear hV hgr hsz HB4 hgb hpp hσ hgx HB;have f0:=Blk.frozen (HV.out.nth 0 rfl) 0;have f1:=Blk.frozen (HV.out.nth 0 rfl) 1;have f2:=Blk.frozen (HV.out.nth 0 rfl) 2;have f3:=Blk.frozen (HV.out.nth 0 rfl) 3;have f4:=Blk.frozen (HV.out.nth 0 rfl) 4;have hgx:w.heap.size<gx:=hgl;have HV2:=Lib.hid (show Blk (V.setCell ⟨gx,4,none⟩ (.string (s.extract 4 s.size))) gx 104 #[.int .i64 (pid:Int),.bool start,.int .i64 (count:Int),.bool false,.string (s.extract 4 s.size)]∧Blk (V.setCell ⟨gx,4,none⟩ (.string (s.extract 4 s.size))) w.heap.size 104 zpk from⟨Blk.set_ (HV.out.nth 0 rfl) 4 _,Blk.far (HV.out.nth 1 rfl) (by simp;omega) _⟩);have HBE:=Lib.hid (HV.out.be.setCell (p:=⟨gx,4,none⟩) (by simp;omega) (.string (s.extract 4 s.size)));have e0:=Blk.cell (HV2.out.1) 0 (v:= .int .i64 (pid:Int)) rfl;have e1:=Blk.cell (HV2.out.1) 1 (v:= .bool start) rfl;have e2:=Blk.cell (HV2.out.1) 2 (v:= .int .i64 (count:Int)) rfl;have e3:=Blk.cell (HV2.out.1) 3 (v:= .bool false) rfl;have e4:=Blk.cell (HV2.out.1) 4 (v:= .string (s.extract 4 s.size)) rfl;have d4:=Blk.cell (HV.out.nth 0 rfl) 4 (v:= .string ⟨#[]⟩) rfl;clear HV hgl hgx
  go_wp2_with (refine wpList_store_blk (g:=w.heap.size) (T:=104) (cs':= #[.int .i64 (pid:Int),.bool start,.int .i64 (count:Int),.bool false,.string (s.extract 4 s.size)]) rfl 104 _ _ rfl rfl rfl (HV2.out.2) (by kernel_rfl) (by kernel_rfl) (by kernel_rfl) (by kernel_rfl) ?_;intro W9 hW9 hg9 hz9)
  have hVE:=HBE.out.trans (below_of_only hg9 HBE.out.size (fun k hk=>by injection hk with hk;omega));exact bodyPost_ret (v:= .tuple #[.agg #[.int .i64 (pid:Int),.bool start,.int .i64 (count:Int),.bool false,.string (s.extract 4 s.size)],.int .i64 0]) (by refine res_row (fn:=Tryz.f42) (p:=2) (q:=3) rfl _ _ w.heap.size 104 _ (0,0) _ ?_ hW9 Tryz.underlying104 rfl (by kernel_rfl);rfl) rfl ⟨by rw[HX.out],hVE⟩
 ·have hsz:(str (pkB pid start count (bl body))).size=188:=by rw[str_size];exact pkB_len (by rw[bl_len];exact Or.inr hb)
  obtain⟨f1,f2,f3,f4,f5⟩:=pkB_front (start:=start) hp hc (body:=bl body) (by rw[bl_len];exact Or.inr hb);have fb:=pkB_body (pid:=pid) (count:=count) (start:=start) (body:=bl body);rw[bl_len,hb]at f5 fb;have f0:at0 (str (pkB pid start count (bl body))) 0=71:=by rw[at0_str];rfl
  rw[if_neg (by decide)]at f5 fb
  have f6:at0 (str (pkB pid start count (bl body))) 4=0:=by
   rw[at0_str];unfold pkB;rw[bl_len,hb];rfl
  rw[←at0_str,←at0_str]at f1;rw[←at0_str]at f2 f3 f4 f5;obtain⟨s,hs⟩: ∃s,str (pkB pid start count (bl body))=s:=⟨_,rfl⟩;have hbs:bl s=pkB pid start count (bl body):=by rw[←hs,bl_str]
  rw[hs]at hsz f0 f1 f2 f3 f4 f5 ⊢;have i0: ∀V:World,(Instr.index 9 (.string s) (.int .i64 0)).run Tryz.prog V= .ok (.int .u8 71) V:=fun V=>by have:=idx_at s 0 (by omega) V;rw[at0_at,f0]at this;exact this
  have i1: ∀V:World,(Instr.index 9 (.string s) (.int .i64 1)).run Tryz.prog V= .ok (.int .u8 (at0 s 1:Int)) V:=fun V=>idx_at s 1 (by omega) V;have i2: ∀V:World,(Instr.index 9 (.string s) (.int .i64 2)).run Tryz.prog V= .ok (.int .u8 (at0 s 2:Int)) V:=fun V=>idx_at s 2 (by omega) V;have i3: ∀V:World,(Instr.index 9 (.string s) (.int .i64 3)).run Tryz.prog V= .ok (.int .u8 (at0 s 3:Int)) V:=fun V=>idx_at s 3 (by omega) V;have l1:=at0_lt s 1;have l2:=at0_lt s 2;have l3:=at0_lt s 3;have l4:=at0_lt s 4;obtain⟨b1,e1⟩: ∃x,at0 s 1=x:=⟨_,rfl⟩;obtain⟨b2,e2⟩: ∃x,at0 s 2=x:=⟨_,rfl⟩;obtain⟨b3,e3⟩: ∃x,at0 s 3=x:=⟨_,rfl⟩;rw[e1]at i1 l1 f1 f2 f3;rw[e2]at i2 l2 f1;rw[e3]at i3 l3 f4 f5;have q1:=wrap63 b1 (by omega);have q2:=wrap63 b2 (by omega);have q3:=wrap63 b3 (by omega);have g1:(b1:Int)%32*256+(b2:Int)=(pid:Int):=by omega
  have g2:((b1:Int)/64%2==1)=start:=by
   cases start
   ·have:(b1:Int)/64%2=0:=by have:=f2;simp at this;omega
    rw[this];rfl
   ·have:(b1:Int)/64%2=1:=by have:=f2;simp at this;omega
    rw[this];rfl
  have g3:((b1:Int)/128==1)=false:=beq_eq_false_iff_ne.2 (by omega);have g4:(b3:Int)%16=(count:Int):=by omega
  have g5:(b3:Int)/16%4=3:=by omega
  have z1:(b1:Int)≤255:=by omega
  have z2:(b2:Int)≤255:=by omega
  have z3:(b3:Int)≤255:=by omega
  have zp:(pid:Int)≤8191:=by omega
  have zc:(count:Int)≤15:=by omega
  have t1:decide ((s.size:Int)<188)=false:=decide_eq_false (by omega);have t2:decide ((188:Int)<(s.size:Int))=false:=decide_eq_false (by omega);have t1':decide (s.size<188)=false:=decide_eq_false (by omega);have t2':decide (188<s.size)=false:=decide_eq_false (by omega);have hz8:8≤s.size:=by omega
  have hz9:(8:Int)≤(s.size:Int):=by omega
  have HB:=Lib.hid (bk1 w 104 zpk);clear f1 f2 f3 f4 f5 e1 e2 e3 l1 l2 l3 f0 hs hsz;rw[show str (pkB pid start count (bl body))=s by rw[←hbs,str_bl]]at f6;have HX:=Lib.hid (show s.extract 5 s.size=body from bl_inj (by rw[RdQ.ext_from,hbs];exact fb));have i4: ∀V:World,(Instr.index 9 (.string s) (.int .i64 4)).run Tryz.prog V= .ok (.int .u8 0) V:=fun V=>by have:=idx_at s 4 (by omega) V;rw[at0_at,f6]at this;exact this
  clear f6 l4 hbs fb hb
  go_enter Tryz.func42,Tryz.ntmps42
  go_wp2_with fail
  refine Go.Proofs.YtibjkhepedfpiaaGreatDoor.Rg.region_new [(25,newB 104 zpk (w.heap.size+1))] 26 (by kernel_rfl) (by kernel_rfl) (by kernel_rfl) (lk_cons newB_inh lk_nil) (lk_cons newB_mono lk_nil) ?_;intro σ hσ;simp only[List.take_succ_cons,List.take_zero,List.drop_succ_cons,List.drop_zero];refine Go.Proofs.YtibjkhepedfpiaaGreatDoor.Rg.wpN_take 25 (by kernel_rfl) (by kernel_rfl) (by kernel_rfl) ?_;simp only[List.take_succ_cons,List.take_zero,List.drop_succ_cons,List.drop_zero]
  repeat (go_big_quiet_step (fail))
  refine wpQuiet_nil ?_;refine wpN_sp _ rfl (by kernel_rfl) (spAt_newB 104 zpk (by simp) (fun _=>rfl)) ?_;simp only[Act.put,List.setIfInBounds_toArray,List.set_cons_zero,List.set_cons_succ];refine wpN_nil ?_;rintro w9 ⟨pq,rfl⟩ hpp;obtain⟨gx,hgx,hgl,hgb⟩:=hpp 25 _ rfl;rw[hgx];refine wpList_store_blk (cs':= #[.int .i64 (pid:Int),.bool start,.int .i64 (count:Int),.bool false,.string ⟨#[]⟩]) rfl 104 _ _ rfl rfl rfl hgb (by kernel_rfl) (by kernel_rfl) (by kernel_rfl) (by kernel_rfl) ?_;intro V hV hgr hsz;have HB4:=HB.out.px pq
  have HV:=Lib.hid (show Bk w V [(gx,104,#[.int .i64 (pid:Int),.bool start,.int .i64 (count:Int),.bool false,.string ⟨#[]⟩]),(w.heap.size,104,zpk)]from⟨HB4.be.trans (below_of_only hgr HB4.size (fun k hk=>by injection hk with hk;omega)),fun x hx=>by
   rcases List.mem_cons.1 hx with rfl|hx
   ·exact hV
   ·rcases List.mem_cons.1 hx with rfl|hx
    ·exact Blk.grown (HB4.nth 0 rfl) hgr (by simp;omega)
    ·cases hx⟩)
  clear hV hgr hsz HB4 hgb hpp hσ hgx HB;have f0:=Blk.frozen (HV.out.nth 0 rfl) 0;have f1:=Blk.frozen (HV.out.nth 0 rfl) 1;have f2:=Blk.frozen (HV.out.nth 0 rfl) 2;have f3:=Blk.frozen (HV.out.nth 0 rfl) 3;have f4:=Blk.frozen (HV.out.nth 0 rfl) 4;have hgx:w.heap.size<gx:=hgl;have HV2:=Lib.hid (show Blk (V.setCell ⟨gx,4,none⟩ (.string (s.extract 5 s.size))) gx 104 #[.int .i64 (pid:Int),.bool start,.int .i64 (count:Int),.bool false,.string (s.extract 5 s.size)]∧Blk (V.setCell ⟨gx,4,none⟩ (.string (s.extract 5 s.size))) w.heap.size 104 zpk from⟨Blk.set_ (HV.out.nth 0 rfl) 4 _,Blk.far (HV.out.nth 1 rfl) (by simp;omega) _⟩);have HBE:=Lib.hid (HV.out.be.setCell (p:=⟨gx,4,none⟩) (by simp;omega) (.string (s.extract 5 s.size)));have e0:=Blk.cell (HV2.out.1) 0 (v:= .int .i64 (pid:Int)) rfl;have e1:=Blk.cell (HV2.out.1) 1 (v:= .bool start) rfl;have e2:=Blk.cell (HV2.out.1) 2 (v:= .int .i64 (count:Int)) rfl;have e3:=Blk.cell (HV2.out.1) 3 (v:= .bool false) rfl;have e4:=Blk.cell (HV2.out.1) 4 (v:= .string (s.extract 5 s.size)) rfl;have d4:=Blk.cell (HV.out.nth 0 rfl) 4 (v:= .string ⟨#[]⟩) rfl;clear HV hgl hgx
  go_wp2_with (refine wpList_store_blk (g:=w.heap.size) (T:=104) (cs':= #[.int .i64 (pid:Int),.bool start,.int .i64 (count:Int),.bool false,.string (s.extract 5 s.size)]) rfl 104 _ _ rfl rfl rfl (HV2.out.2) (by kernel_rfl) (by kernel_rfl) (by kernel_rfl) (by kernel_rfl) ?_;intro W9 hW9 hg9 hz9)
  have hVE:=HBE.out.trans (below_of_only hg9 HBE.out.size (fun k hk=>by injection hk with hk;omega));exact bodyPost_ret (v:= .tuple #[.agg #[.int .i64 (pid:Int),.bool start,.int .i64 (count:Int),.bool false,.string (s.extract 5 s.size)],.int .i64 0]) (by refine res_row (fn:=Tryz.f42) (p:=2) (q:=3) rfl _ _ w.heap.size 104 _ (0,0) _ ?_ hW9 Tryz.underlying104 rfl (by kernel_rfl);rfl) rfl ⟨by rw[HX.out],hVE⟩
theorem whole_any (s:ByteArray) (w:World) (hs:s.size≤1099511627776):Calls Tryz.prog 43 #[.string s] w fun e w'=>e= .returned (.int .i64 (RdP.wh (bl s):Int))∧Below w.heap.size w w':=by
 by_cases h:s.size<3
 ·have HX:=Lib.hid (show RdP.wh (bl s)=0 from by unfold RdP.wh;rw[bl_len,if_pos h])
  have t1:decide ((s.size:Int)<3)=true:=decide_eq_true (by omega);have t1':decide (s.size<3)=true:=decide_eq_true h;clear h
  go_enter Tryz.func43,Tryz.ntmps43
  go_wp2_with fail
  go_ret;exact⟨by rw[HX.out];rfl,Below.refl _ _⟩
 ·have HX:=Lib.hid (show RdP.wh (bl s)=3+at0 s 1%16*256+at0 s 2 from by
   unfold RdP.wh;rw[bl_len,if_neg h];have: ∀k,((bl s).getD k 0).toNat=at0 s k:=fun k=>by rw[←at0_str,str_bl]
   rw[this,this])
  have t1:decide ((s.size:Int)<3)=false:=decide_eq_false (by omega);have t1':decide (s.size<3)=false:=decide_eq_false h;have i1: ∀V:World,(Instr.index 9 (.string s) (.int .i64 1)).run Tryz.prog V= .ok (.int .u8 (at0 s 1:Int)) V:=fun V=>idx_at s 1 (by omega) V;have i2: ∀V:World,(Instr.index 9 (.string s) (.int .i64 2)).run Tryz.prog V= .ok (.int .u8 (at0 s 2:Int)) V:=fun V=>idx_at s 2 (by omega) V;have l1:=at0_lt s 1;have l2:=at0_lt s 2;obtain⟨b1,e1⟩: ∃x,at0 s 1=x:=⟨_,rfl⟩;obtain⟨b2,e2⟩: ∃x,at0 s 2=x:=⟨_,rfl⟩;rw[e1]at i1 l1 HX;rw[e2]at i2 l2 HX;have q1:=wrap63 b1 (by omega);have q2:=wrap63 b2 (by omega);have z1:(b1:Int)≤255:=by omega
  have z2:(b2:Int)≤255:=by omega
  have hz8:3≤s.size:=by omega
  clear h e1 e2 l1 l2
  go_enter Tryz.func43,Tryz.ntmps43
  go_wp2_with fail
  refine Go.Proofs.YtibjkhepedfpiaaGreatDoor.Q.region_ext (by kernel_rfl) (by kernel_rfl) ?_
  repeat (go_big_quiet_step (fail))
  refine wpQuiet_nil ?_;rintro w9 ⟨pq,rfl⟩;have hbe:=below_ext w pq
  go_wp2_with fail
  go_ret;exact⟨by rw[HX.out];congr 2,hbe⟩
end Go.Proofs.YtibjkhepedfpiaaGreatDoor.PyD
