import Derived.Test.YtdbpkhnmhddmmaaGreatDoorRnPkX
namespace Go.Proofs.YtdbpkhnmhddmmaaGreatDoor.BuT
open Go Go.RowKit Q Mem Rg Ap ApG St Tab TmA TbM TbO TbP TbU TbV TbW BuA BuI BuN
set_option maxRecDepth 100000
structure EndIn (w:World) (B g gt gr:Nat) (v:Value) (S:Tb) (C:Nat→List UInt8) (mac:Int) (e:Ending) (w':World):Prop where
 out: ∃o,e= .returned (.tuple #[o,.int .i64 (cntM S S.R:Nat),.int .i64 (cntF S S.R:Nat)])∧w'.ownsRow w.heap.size 101 2 o (outAt (mdS S C S.R) 0).length (flat (enPl (mdS S C S.R)) (outAt (mdS S C S.R) 0))
 ga:GaA w' B g gt gr (.slice none 0 0) (emptyT S.R) mac 0
 k:Kept (footG g gt gr v) w w'
theorem ga_wipe {w w':World} {B g gt gr:Nat} {v:Value} {S S':Tb} {mac:Int} {n:Nat} (h:GaA w B g gt gr v S mac n) (ht:TbIn w' B gt gr (.slice none 0 0) S') (hR:S'.R=S.R) (k:Kept (foot gt gr v) w w'):GaA w' B g gt gr (.slice none 0 0) S' mac n:=
 ⟨⟨(k.block g (Blk.lt h.box) h.ap).trans (by rw[hR];exact h.box),ht,h.gb⟩,fun e=>e.elim (fun e=>h.ap (Or.inl e)) (fun e=>e.elim (fun e=>h.ap (Or.inr (Or.inl e))) (fun e=>by cases e))⟩
set_option maxHeartbeats 3200000 in
theorem end_any (w:World) (B g gt gr:Nat) (v:Value) (S:Tb) (C:Nat→List UInt8) (mac:Int) (n:Nat) (h:GaA w B g gt gr v S mac n) (hok:Ok S) (hC: ∀r,r<S.R→RowOf S r (C r)):
 Calls Tryz.prog 39 #[.pointer (some ⟨g,0,none⟩)] w (EndIn w B g gt gr v S C mac):=by
 obtain⟨Q,hQ⟩: ∃Q,Q=EndIn w B g gt gr v S C mac:=⟨_,rfl⟩;rw[←hQ];have HQ:=Lib.hid hQ;have km:=TbW.mend_any w B gt gr v S C h.t hok.R hC;have hok2:Ok (mdS S C S.R):=⟨hok.R,hok.R0,hok.st,hok.up,hok.lt⟩;have HSR:=Lib.hid (show(mdS S C S.R).R=S.R from rfl);obtain⟨S2,hS2⟩: ∃S2,mdS S C S.R=S2:=⟨_,rfl⟩;rw[hS2]at km hok2 HSR;have HS2:=Lib.hid hS2;obtain⟨m1,hm1⟩: ∃m,cntM S S.R=m:=⟨_,rfl⟩;obtain⟨m2,hm2⟩: ∃m,cntF S S.R=m:=⟨_,rfl⟩;rw[hm1,hm2]at km;have HM:=Lib.hid (And.intro hm1 hm2);have HH:=Lib.hid h;have HO2:=Lib.hid hok2;have g0:=Blk.cell h.box 0 (v:= .pointer (some ⟨gt,0,none⟩)) rfl;clear h hok hC hQ hS2 hm1 hm2 hok2
 go_enter Tryz.func39,Tryz.ntmps39
 go_wp2_with fail
 (with_reducible refine(km).mono ?_);rintro e1 W1 ⟨rfl,ht1,hk1⟩
 have hG1:=HH.out.table ht1 HSR.out (Or.inl rfl) (hk1.mono (fun i _ e=>Or.inr (Or.inl e)));have hK1:=hk1.mono (F:=foot gt gr v) (fun i _ e=>Or.inr (Or.inl e));have ko:=TbU.out_any W1 B gt gr v S2 hG1.t HO2.out;have g1:=Blk.cell hG1.box 0 (v:= .pointer (some ⟨gt,0,none⟩)) rfl;clear km ht1 hk1 g0
 go_wp2_with fail
 (with_reducible refine(ko).mono ?_);rintro e2 W2 ⟨hb2,o,rfl,hown2⟩
 obtain⟨oa,oc,rfl⟩:=own_form hown2;have hG2:=hG1.below hb2;have hK2:=hK1.then (hb2.mono hK1.size);have HOW:=Lib.hid (And.intro hown2 hK1.size);have kc:=TbSc.clear_any W2 B gt gr v S2 hG2.t HO2.out;have g2:=Blk.cell hG2.box 0 (v:= .pointer (some ⟨gt,0,none⟩)) rfl;have HGE:=Lib.hid (fun i (hi:foot gt gr v i)=>(hG1.t.ge i hi).2);clear ko hown2 hb2 hG1 hK1 g1
 go_wp2_with fail
 (with_reducible refine(kc).mono ?_);rintro e3 W3 ⟨rfl,ht3,hk3⟩
 rw[HSR.out]at ht3;have hG3:=ga_wipe hG2 ht3 HSR.out.symm hk3;have hK3:=(hK2.trans hk3 (fun i _ h=>h)).mono (F:=footG g gt gr v) (fun i _ h=>Or.inr h);have c3:=Blk.cell hG3.box 3 (v:= .int .i64 (n:Int)) rfl;have f3:=Blk.frozen hG3.box 3;have HG3:=Lib.hid hG3;have HK3:=Lib.hid hK3;have HKC:=Lib.hid hk3;clear kc ht3 hk3 hG2 hK2 g2 hG3 hK3
 go_wp2_with fail
 have hgb:=Blk.lt HH.out.box;have ho3:=FrA.own_kept HOW.out.1 HKC.out (fun i hi hf=>by have h1:=(HOW.out.1.lt i hi).1;have h2:=HGE.out i hf;omega);have hset:Kept (fun i=>i=g) W3 (W3.setCell ⟨g,3,none⟩ (.int .i64 0)):=kept_set rfl;have ho4:=FrA.own_kept ho3 hset (fun i hi e=>by have h1:=(ho3.lt i hi).1;have h2:=HOW.out.2;omega);rw[HQ.out];refine⟨⟨_,by rw[HM.out.1,HM.out.2];rfl,by rw[HS2.out];exact own_base ho4 HOW.out.2⟩,⟨⟨Blk.set_ HG3.out.box 3 _,HG3.out.t.kept hset (fun i hi e=>HG3.out.ap (e▸hi)),HG3.out.gb⟩,HG3.out.ap⟩,HK3.out.trans hset (fun i _ e=>Or.inl e)⟩
end Go.Proofs.YtdbpkhnmhddmmaaGreatDoor.BuT
