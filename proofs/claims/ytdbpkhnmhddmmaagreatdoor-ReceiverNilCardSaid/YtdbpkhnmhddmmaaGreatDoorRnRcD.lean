import Derived.Test.YtdbpkhnmhddmmaaGreatDoorRnRcC
namespace Go.Proofs.YtdbpkhnmhddmmaaGreatDoor.RcD
open Go Go.RowKit Q Mem Rg Ap St BiH CrB Tab PaN PaK TpP TmA TbM TbO TbP TbU TbV TbW PkE BuB BuC BuI BuN BuO BuP BuS JnP JnA JnD JnE TpW RcA RcB RcC
set_option maxRecDepth 100000
theorem slot_nil (t:ByteArray) (w:World):Calls Tryz.prog 24 #[.pointer none,.string t] w fun e w'=>e= .returned (.tuple #[.slice none 0 0,.int .i64 2])∧w=w':=by
 go_enter_defers Tryz.func24,Tryz.ntmps24
 go_wp2
 exact⟨.tuple #[.slice none 0 0,.int .i64 2],by simp[results,Tryz.results24,go_sem],rfl,rfl⟩
theorem slot_busy (w:World) (B r gj gg gt gr gm:Nat) (v:Value) (x:Rv) (t:ByteArray) (xs:Nat→Rv) (n:Nat) (CC DD:Nat→Nat→List UInt8) (h:RvIn w B r gj gg gt gr gm v (.slice none 0 0) x) (hT:Tab 4 w) (hG:4<B) (hW:Wid 0 w)
 (ht0:t.size≠0) (ht:t.size≤1099511627776) (hq:x.always=true∨x.m.state≠2) (hh:x.j.hold.size≤800000) (hc:0≤x.j.cnt∧x.j.cnt≤15) (hl:x.j.lost≤1000000000) (hn:(byJ x.j t).o.length=n) (hn2:n≤1000000) (hx0:xs 0={x with j:=(byJ x.j t).j})
 (hk: ∀k s,(byJ x.j t).o[k]? =some s→TkOk (xs k) s (CC k) (DD k)∧xs (k+1)=(xs k).takeR s (CC k) (DD k)) (hyi:(xs n).m.Inv):
 Calls Tryz.prog 24 #[.pointer (some ⟨r,0,none⟩),.string t] w fun e w'=> ∃v' ov',e= .returned (.tuple #[ov',.int .i64 (if(byJ x.j t).e=14 then 0 else(byJ x.j t).e)])∧RvS w w' B r gj gg gt gr gm v (.slice none 0 0) v' (.slice none 0 0) {xs n with out:=[],m:=(xs n).m.next}∧w'.ownsRow w.heap.size 9 1 ov' (xs n).out.length (flat enS (xs n).out):=by
 have hmf: ∀(fn:Fn) (first cap:Array Value) (w:World),(Instr.makeFunc fn first cap).run Tryz.prog w= .ok (.func fn first cap) w:=fun _ _ _ _=>rfl;have t1:(t.toList==[])=false:=by rw[tb_size];simpa using ht0
 have m3:=Blk.cell h.box 3 (v:= .pointer (some ⟨gm,0,none⟩)) rfl;have m0:=Blk.cell h.box 0 (v:= .bool x.always) rfl;have m1:=Blk.cell h.box 1 (v:= .pointer (some ⟨gj,0,none⟩)) rfl;have kb:=bytes_any w gj x.j t h.jn hW ht hh hc hl;have kaw:=AwB.awake_any x.m gm w h.m;have H:=Lib.hid h;have HT:=Lib.hid (And.intro hG hT);have HB:=Lib.hid (show B≤w.heap.size from Nat.le_trans h.rb (Nat.le_of_lt (Blk.lt h.box)));have HA:=Lib.hid h.ge;have HK:=Lib.hid (And.intro hx0 hk);have HY:=Lib.hid hyi;have HN:=Lib.hid hn;obtain⟨F,hF⟩: ∃F,byJ x.j t=F:=⟨_,rfl⟩;rw[hF]at kb HK HN ⊢;obtain⟨E2,hE2⟩: ∃E,(if F.e=14 then 0 else F.e)=E:=⟨_,rfl⟩;have HE2:=Lib.hid hE2.symm;rw[hE2];clear hE2;clear h hT hG hW ht0 ht hh hc hl hn hx0 hk hyi hF;by_cases hal:x.always=true
 ·rw[hal]at m0
  clear kaw hq
  go_enter_defers Tryz.func24,Tryz.ntmps24
  go_wp2_with fail
  (with_reducible refine(kb).mono ?_);rintro e1 W1 hk
  obtain⟨⟨o,rfl,hown⟩,hj⟩:=hk;rw[HN.out]at hown;obtain⟨oa,oc,rfl⟩:=Ap.own_form hown;have HOW:=Lib.hid hown;have H1:Hid (RvS w W1 B r gj gg gt gr gm v (.slice none 0 0) v (.slice none 0 0) (xs 0)):=Lib.hid (by rw[HK.out.1];exact s_j H.out hj);obtain⟨E,hE⟩: ∃E,F.e=E:=⟨_,rfl⟩;have HE3:=Lib.hid hE;rw[hE];clear kb hown hj m0 m1 m3 hE;by_cases h14:E=14
  ·have HE4:=Lib.hid (show E2=0 from by rw[HE2.out,HE3.out,if_pos h14])
   subst h14
   have ke:=each_any W1 B r gj gg gt gr gm v (.slice none 0 0) xs F.o oa n oc CC DD H1.out.inn (HT.out.2.below (H1.out.k.be (B:=B) HB.out (fun i e=>(HA.out i e).1)) HT.out.1) HT.out.1 (own_seq (en:=enS) BuE.enS_one HOW.out HN.out) HN.out hn2 (fun b o e hf=>by
    have h1:=(HA.out b hf).2;have h2:=(HOW.out.lt b (by rw[e];rfl)).1;omega) HK.out.2
   go_wp2_with fail
   (with_reducible refine(ke).mono ?_);rintro e2 W2 ⟨rfl,v2,ov2,hs2⟩
   have H2:=Lib.hid (H1.out.trans hs2);have kt:=told_any W2 B r gj gg gt gr gm v2 ov2 (xs n) H2.out.inn;clear ke hs2
   go_wp2_with fail
   (with_reducible refine(kt).mono ?_);rintro e3 W3 ⟨rfl,hs3,hrow⟩
   have H3:=Lib.hid (H2.out.trans hs3);have HR:=Lib.hid hrow;clear kt hs3 hrow
   go_wp2_with fail
   refine leaves_cons (f:=23) (args:= #[.pointer (some ⟨gm,0,none⟩)]) (by simp) (by simp[go_sem]) ?_;refine(next_d (xs n).m gm .returning W3 H3.out.inn.m HY.out).mono ?_;rintro e u' w'' ⟨rfl,rfl,ht⟩;refine⟨.tuple #[ov2,.int .i64 0],by simp[results,Tryz.results24,go_sem],v2,ov2,?_,H3.out.trans (s_m H3.out.inn ht),?_⟩
   rotate_left
   ·refine own_raise (FrA.own_kept HR.out (kept_grown (F:=fun i=>i=gm) ht.only (fun _ e=>by injection e with e;exact e.symm)) (fun i hi e=>?_)) (fun i e=>(H2.out.fo i e).elim (fun e=>by cases e) id)
    exact absurd (Tyb.uniq (tyb_own HR.out hi) (e▸tyb_blk (show Blk W3 gm 96 _ from H3.out.inn.m))) (by decide)
   rw[HE4.out]
  ·have t5:(E==14)=false:=by simpa using h14
   have HE4:=Lib.hid (show E2=E from by rw[HE2.out,HE3.out,if_neg h14]);clear h14
   have ke:=each_any W1 B r gj gg gt gr gm v (.slice none 0 0) xs F.o oa n oc CC DD H1.out.inn (HT.out.2.below (H1.out.k.be (B:=B) HB.out (fun i e=>(HA.out i e).1)) HT.out.1) HT.out.1 (own_seq (en:=enS) BuE.enS_one HOW.out HN.out) HN.out hn2 (fun b o e hf=>by
    have h1:=(HA.out b hf).2;have h2:=(HOW.out.lt b (by rw[e];rfl)).1;omega) HK.out.2
   go_wp2_with fail
   (with_reducible refine(ke).mono ?_);rintro e2 W2 ⟨rfl,v2,ov2,hs2⟩
   have H2:=Lib.hid (H1.out.trans hs2);have kt:=told_any W2 B r gj gg gt gr gm v2 ov2 (xs n) H2.out.inn;clear ke hs2
   go_wp2_with fail
   (with_reducible refine(kt).mono ?_);rintro e3 W3 ⟨rfl,hs3,hrow⟩
   have H3:=Lib.hid (H2.out.trans hs3);have HR:=Lib.hid hrow;clear kt hs3 hrow
   go_wp2_with fail
   refine leaves_cons (f:=23) (args:= #[.pointer (some ⟨gm,0,none⟩)]) (by simp) (by simp[go_sem]) ?_;refine(next_d (xs n).m gm .returning W3 H3.out.inn.m HY.out).mono ?_;rintro e u' w'' ⟨rfl,rfl,ht⟩;refine⟨.tuple #[ov2,.int .i64 E],by simp[results,Tryz.results24,go_sem],v2,ov2,?_,H3.out.trans (s_m H3.out.inn ht),?_⟩
   rotate_left
   ·refine own_raise (FrA.own_kept HR.out (kept_grown (F:=fun i=>i=gm) ht.only (fun _ e=>by injection e with e;exact e.symm)) (fun i hi e=>?_)) (fun i e=>(H2.out.fo i e).elim (fun e=>by cases e) id)
    exact absurd (Tyb.uniq (tyb_own HR.out hi) (e▸tyb_blk (show Blk W3 gm 96 _ from H3.out.inn.m))) (by decide)
   rw[HE4.out]
 ·have h2:=hq.resolve_left hal
  have hal':x.always=false:=by simpa using hal
  rw[hal']at m0;rw[show(x.m.state !=2)=true from by simpa using h2]at kaw;clear hq h2 hal hal'
  go_enter_defers Tryz.func24,Tryz.ntmps24
  go_wp2_with fail
  (with_reducible refine(kaw).mono ?_);rintro e1 V1 ⟨rfl,rfl⟩
  clear kaw
  go_wp2_with fail
  (with_reducible refine(kb).mono ?_);rintro e1 W1 hk
  obtain⟨⟨o,rfl,hown⟩,hj⟩:=hk;rw[HN.out]at hown;obtain⟨oa,oc,rfl⟩:=Ap.own_form hown;have HOW:=Lib.hid hown;have H1:Hid (RvS w W1 B r gj gg gt gr gm v (.slice none 0 0) v (.slice none 0 0) (xs 0)):=Lib.hid (by rw[HK.out.1];exact s_j H.out hj);obtain⟨E,hE⟩: ∃E,F.e=E:=⟨_,rfl⟩;have HE3:=Lib.hid hE;rw[hE];clear kb hown hj m0 m1 m3 hE;by_cases h14:E=14
  ·have HE4:=Lib.hid (show E2=0 from by rw[HE2.out,HE3.out,if_pos h14])
   subst h14
   have ke:=each_any W1 B r gj gg gt gr gm v (.slice none 0 0) xs F.o oa n oc CC DD H1.out.inn (HT.out.2.below (H1.out.k.be (B:=B) HB.out (fun i e=>(HA.out i e).1)) HT.out.1) HT.out.1 (own_seq (en:=enS) BuE.enS_one HOW.out HN.out) HN.out hn2 (fun b o e hf=>by
    have h1:=(HA.out b hf).2;have h2:=(HOW.out.lt b (by rw[e];rfl)).1;omega) HK.out.2
   go_wp2_with fail
   (with_reducible refine(ke).mono ?_);rintro e2 W2 ⟨rfl,v2,ov2,hs2⟩
   have H2:=Lib.hid (H1.out.trans hs2);have kt:=told_any W2 B r gj gg gt gr gm v2 ov2 (xs n) H2.out.inn;clear ke hs2
   go_wp2_with fail
   (with_reducible refine(kt).mono ?_);rintro e3 W3 ⟨rfl,hs3,hrow⟩
   have H3:=Lib.hid (H2.out.trans hs3);have HR:=Lib.hid hrow;clear kt hs3 hrow
   go_wp2_with fail
   refine leaves_cons (f:=23) (args:= #[.pointer (some ⟨gm,0,none⟩)]) (by simp) (by simp[go_sem]) ?_;refine(next_d (xs n).m gm .returning W3 H3.out.inn.m HY.out).mono ?_;rintro e u' w'' ⟨rfl,rfl,ht⟩;refine⟨.tuple #[ov2,.int .i64 0],by simp[results,Tryz.results24,go_sem],v2,ov2,?_,H3.out.trans (s_m H3.out.inn ht),?_⟩
   rotate_left
   ·refine own_raise (FrA.own_kept HR.out (kept_grown (F:=fun i=>i=gm) ht.only (fun _ e=>by injection e with e;exact e.symm)) (fun i hi e=>?_)) (fun i e=>(H2.out.fo i e).elim (fun e=>by cases e) id)
    exact absurd (Tyb.uniq (tyb_own HR.out hi) (e▸tyb_blk (show Blk W3 gm 96 _ from H3.out.inn.m))) (by decide)
   rw[HE4.out]
  ·have t5:(E==14)=false:=by simpa using h14
   have HE4:=Lib.hid (show E2=E from by rw[HE2.out,HE3.out,if_neg h14]);clear h14
   have ke:=each_any W1 B r gj gg gt gr gm v (.slice none 0 0) xs F.o oa n oc CC DD H1.out.inn (HT.out.2.below (H1.out.k.be (B:=B) HB.out (fun i e=>(HA.out i e).1)) HT.out.1) HT.out.1 (own_seq (en:=enS) BuE.enS_one HOW.out HN.out) HN.out hn2 (fun b o e hf=>by
    have h1:=(HA.out b hf).2;have h2:=(HOW.out.lt b (by rw[e];rfl)).1;omega) HK.out.2
   go_wp2_with fail
   (with_reducible refine(ke).mono ?_);rintro e2 W2 ⟨rfl,v2,ov2,hs2⟩
   have H2:=Lib.hid (H1.out.trans hs2);have kt:=told_any W2 B r gj gg gt gr gm v2 ov2 (xs n) H2.out.inn;clear ke hs2
   go_wp2_with fail
   (with_reducible refine(kt).mono ?_);rintro e3 W3 ⟨rfl,hs3,hrow⟩
   have H3:=Lib.hid (H2.out.trans hs3);have HR:=Lib.hid hrow;clear kt hs3 hrow
   go_wp2_with fail
   refine leaves_cons (f:=23) (args:= #[.pointer (some ⟨gm,0,none⟩)]) (by simp) (by simp[go_sem]) ?_;refine(next_d (xs n).m gm .returning W3 H3.out.inn.m HY.out).mono ?_;rintro e u' w'' ⟨rfl,rfl,ht⟩;refine⟨.tuple #[ov2,.int .i64 E],by simp[results,Tryz.results24,go_sem],v2,ov2,?_,H3.out.trans (s_m H3.out.inn ht),?_⟩
   rotate_left
   ·refine own_raise (FrA.own_kept HR.out (kept_grown (F:=fun i=>i=gm) ht.only (fun _ e=>by injection e with e;exact e.symm)) (fun i hi e=>?_)) (fun i e=>(H2.out.fo i e).elim (fun e=>by cases e) id)
    exact absurd (Tyb.uniq (tyb_own HR.out hi) (e▸tyb_blk (show Blk W3 gm 96 _ from H3.out.inn.m))) (by decide)
   rw[HE4.out]
end Go.Proofs.YtdbpkhnmhddmmaaGreatDoor.RcD
