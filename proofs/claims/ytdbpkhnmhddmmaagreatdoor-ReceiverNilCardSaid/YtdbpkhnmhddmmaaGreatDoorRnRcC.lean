import Derived.Test.YtdbpkhnmhddmmaaGreatDoorRnRcB
import Derived.Defers
namespace Go.Proofs.YtdbpkhnmhddmmaaGreatDoor.RcC
open Go Go.RowKit Q Mem Rg Ap St BiH CrB Tab TmA TbM TbO TbP TbU TbV TbW PkE BuB BuC BuI BuN BuO BuP BuS JnP JnA JnD JnE TpW RcA RcB
set_option maxHeartbeats 800000 in
theorem next_d (m:Aw.M) (g:Nat) (u:FrameMode) (w:World) (hm:AwB.At w g m) (hi:m.Inv):
 CallsD Tryz.prog 23 #[.pointer (some ⟨g,0,none⟩)] u w fun e u' w'=>u'=u∧(e= .returned (.tuple #[])∧AwB.Turned w w' g m.next):=by
 have hn1:=hi.n1;have hn2:=hi.n2;have ht1:=hi.t1;have ht2:=hi.t2;have c4:=Blk.cell hm 4 (v:= .int .i64 m.now) rfl;have c9:=Blk.cell hm 9 (v:= .int .i64 m.spent) rfl;have z4:=Blk.frozen hm 4;have z9:=Blk.frozen hm 9;by_cases hn:1099511627775≤m.now
 ·have e:m.next=m:=by unfold Aw.M.next;rw[if_pos hn]
  rw[e]
  go_enter_d Tryz.func23,Tryz.ntmps23
  go_wp2
  refine bodyPost_ret (results_none rfl _ _ _) rfl ?_;exact⟨rfl,AwB.Turned.refl hm⟩
 ·have e:m.next=m.tick.settle:=by unfold Aw.M.next;rw[if_neg hn]
  rw[e];by_cases h2:m.state=2
  ·have e2:m.tick=⟨m.unit,m.guard,m.burst,m.pat,m.now+1,m.state,m.begun,m.wake,m.last,m.spent,m.missed⟩:=by unfold Aw.M.tick;rw[if_pos h2]
   have eb:(m.state !=2)=false:=by simpa using h2
   have k0:=AwB.awake_any m g w hm;rw[eb]at k0;rw[e2];clear e e2 eb h2
   go_enter_d Tryz.func23,Tryz.ntmps23
   go_wp2_with (go_at_call 20;(with_reducible refine(k0).mono ?_);rintro e w' ⟨rfl,rfl⟩)
   have h1:=AwC.turned_tick0 m g w hm
   (with_reducible refine(AwB.settle_any _ g _ h1.at_ (AwC.small_tick m hi hn _)).mono ?_);rintro e w1 ⟨rfl,ht⟩
   go_wp2
   go_end0
   exact⟨rfl,h1.trans ht⟩
  ·have e2:m.tick=⟨m.unit,m.guard,m.burst,m.pat,m.now+1,m.state,m.begun,m.wake,m.last,m.spent+1,m.missed⟩:=by unfold Aw.M.tick;rw[if_neg h2]
   have eb:(m.state !=2)=true:=by simpa using h2
   have k0:=AwB.awake_any m g w hm;rw[eb]at k0;rw[e2];clear e e2 eb h2
   go_enter_d Tryz.func23,Tryz.ntmps23
   go_wp2_with (go_at_call 20;(with_reducible refine(k0).mono ?_);rintro e w' ⟨rfl,rfl⟩)
   have h1:=AwC.turned_tick m g w hm (m.spent+1)
   (with_reducible refine(AwB.settle_any _ g _ h1.at_ (AwC.small_tick m hi hn _)).mono ?_);rintro e w1 ⟨rfl,ht⟩
   go_wp2
   go_end0
   exact⟨rfl,h1.trans ht⟩
theorem told_d (b r:Nat) (u:FrameMode) (w:World) (o:Value) (h0:w.cell? ⟨b,0,none⟩=some (.pointer (some ⟨r,0,none⟩))) (h1:w.cell? ⟨r,16,none⟩=some o) (hz:w.frozen? ⟨r,16,none⟩=false):
 CallsD Tryz.prog 78 #[.pointer (some ⟨b,0,none⟩)] u w fun e u' w'=>u'=u∧(e= .returned (.tuple #[])∧w'=w.setCell ⟨r,16,none⟩ (.slice none 0 0)):=by
 go_enter_d Tryz.func78,Tryz.ntmps78
 go_wp2
 go_end0
 exact⟨rfl,rfl⟩
def Rv.tell (x:Rv):Rv:={x with out:=[]}
theorem own_raise {w:World} {B B' n sz:Nat} {e:TypeId} {v:Value} {xs:List Value} (h:w.ownsRow B e sz v n xs) (hb: ∀i,v.ownBlock=some i→B'≤i):w.ownsRow B' e sz v n xs:=by
 refine⟨h.1,?_⟩;rcases h.2 with h1|⟨g,cap,cur,h1,_,h3⟩
 ·exact Or.inl h1
 ·exact Or.inr ⟨g,cap,cur,h1,hb g (by rw[h1];rfl),h3⟩
theorem s_tell {w:World} {B r gj gg gt gr gm:Nat} {v ov:Value} {x:Rv} (h:RvIn w B r gj gg gt gr gm v ov x):RvS w (w.setCell ⟨r,16,none⟩ (.slice none 0 0)) B r gj gg gt gr gm v ov v (.slice none 0 0) (Rv.tell x):=
 have k:=kc w r 16 (.slice none 0 0)
 ⟨⟨Blk.set_ h.box 16 _,(k.block gj (Blk.lt h.jn) h.r_off.1).trans h.jn,ga_kept h.ga k (fun _ hi e=>h.r_off.2.1 (e▸hi)),(k.block gm (Blk.lt h.m) h.r_off.2.2.1).trans h.m,World.ownsRow_nil _ _ _ _,h.rb,h.jb,h.mb⟩,k.mono (fun _ _ e=>Or.inl e),Far.refl _ _,far_nil _ _⟩
structure TkOk (x:Rv) (s:ByteArray) (C D:Nat→List UInt8):Prop where
 hi:x.m.Inv
 hs:s.size≤1099511627776
 c1:x.sec≤1000000000
 c2:x.wrong≤1000000000
 c3:x.frames≤900000000
 c4:x.failed≤900000000
 c5:x.out.length≤700000
 c6:x.n≤900000
 hok:Ok x.S
 hst:x.S.st.length≤80000
 hR:x.S.R=256
 hC:tmE s=0→(x.m.state=2→x.always=true)→x.wakes.early=true→ ∀q,q<x.S.R→RowOf x.S q (C q)
 hD:tmE s=0→(x.m.state=2→x.always=true)→((x.pre C).hears s).last s=true→ ∀q,q<256→RowOf (tkT (x.pre C).S x.mac s) q (D q)
set_option maxRecDepth 100000
theorem told_any (w:World) (B r gj gg gt gr gm:Nat) (v ov:Value) (x:Rv) (h:RvIn w B r gj gg gt gr gm v ov x):
 Calls Tryz.prog 42 #[.pointer (some ⟨r,0,none⟩)] w fun e w'=>e= .returned ov∧RvS w w' B r gj gg gt gr gm v ov v (.slice none 0 0) (Rv.tell x)∧w'.ownsRow B 9 1 ov x.out.length (flat enS x.out):=by
 have hmf: ∀(fn:Fn) (first cap:Array Value) (w:World),(Instr.makeFunc fn first cap).run Tryz.prog w= .ok (.func fn first cap) w:=fun _ _ _ _=>rfl;have hb:=(Below.refl _ w).alloc (Nat.le_refl _) (.cells #[.pointer (some ⟨r,0,none⟩)] 28);have H1:=Lib.hid (s_below h hb);have k0:=Blk.cell (Blk.new w 28 #[.pointer (some ⟨r,0,none⟩)]) 0 (v:= .pointer (some ⟨r,0,none⟩)) rfl;have c16:=Blk.cell H1.out.inn.box 16 (v:=ov) rfl;have z16:=Blk.frozen H1.out.inn.box 16;clear h hb
 go_enter_defers Tryz.func42,Tryz.ntmps42
 go_wp2
 refine leaves_cons (f:=78) (args:= #[.pointer (some ⟨w.heap.size,0,none⟩)]) (by simp) (by simp[go_sem]) ?_;refine(told_d _ r .returning _ ov k0 c16 z16).mono ?_;rintro e u' w'' ⟨rfl,rfl,rfl⟩;exact⟨_,results_tmp rfl _ _ _,rfl,H1.out.trans (s_tell H1.out.inn),FrA.own_kept H1.out.inn.out (kc _ r 16 _) (fun _ hi e=>H1.out.inn.r_off.2.2.2 (e▸hi))⟩
theorem each_any (w:World) (B r gj gg gt gr gm:Nat) (v ov:Value) (xs:Nat→Rv) (L:List ByteArray) (a:Option Addr) (n cp:Nat) (CC DD:Nat→Nat→List UInt8) (h:RvIn w B r gj gg gt gr gm v ov (xs 0)) (hT:Tab 4 w) (hG:4<B)
 (hL:Seq enS 1 w a L) (hn:L.length=n) (hn2:n≤1000000) (hoff: ∀b o,a=some ⟨b,o,none⟩→ ¬footR r gj gg gt gr gm v ov b) (hk: ∀k s,L[k]? =some s→TkOk (xs k) s (CC k) (DD k)∧xs (k+1)=(xs k).takeR s (CC k) (DD k)):
 Calls Tryz.prog 50 #[.slice a n cp,.func (.func 51) #[.pointer (some ⟨r,0,none⟩)] #[]] w fun e w'=>e= .returned (.tuple #[])∧ ∃v' ov',RvS w w' B r gj gg gt gr gm v ov v' ov' (xs n):=by
 have H0:=Lib.hid (RvS.refl h);have HB:=Lib.hid (show B≤w.heap.size from Nat.le_trans h.rb (Nat.le_of_lt (Blk.lt h.box)));have HA:=Lib.hid h.ge;have HT:=Lib.hid (And.intro hG hT);have HL:=Lib.hid hL;have HN:=Lib.hid hn;have HO:=Lib.hid hoff;have HK:=Lib.hid hk;have n0:(0:Int)≤(n:Int):=Int.natCast_nonneg _;clear h hT hG hL hn hoff hk
 go_enter Tryz.func50,Tryz.ntmps50
 go_wp2_with fail
 go_loopw [8] (fun iv W=> ∃(k:Nat) (v' ov':Value),k≤n∧iv= .int .i64 k∧Hid (RvS w W B r gj gg gt gr gm v ov v' ov' (xs k))) (fun iv _=>n-(intOf iv).toNat)
 case atStart=>exact⟨0,v,ov,by omega,rfl,H0⟩
 case round=>
  obtain⟨k,v',ov',hk,rfl,HV⟩:=hrel;have k0:(0:Int)≤(k:Int):=Int.natCast_nonneg _;by_cases hkn:k<n
  ·have t3:decide ((k:Int)<(n:Int))=true:=decide_eq_true (by omega)
   have t3':decide (k<n)=true:=decide_eq_true hkn;have k1:(k:Int)<(n:Int):=by omega
   obtain⟨s,hs⟩: ∃s,L[k]? =some s:=⟨_,List.getElem?_eq_getElem (by rw[HN.out];exact hkn)⟩;obtain⟨hok,hstep⟩:=HK.out k s hs;obtain⟨b0,o0,rfl,hlt,hc⟩:=HL.out k s hs;have c0:wr.cell? ⟨b0,o0+k,none⟩=some (.string s):=(HV.out.k.cell (p:=⟨b0,o0+k,none⟩) hlt (HO.out b0 o0 rfl)).trans (by have:=hc 0 (.string s) rfl;simpa [off]using this);have kt:=rtake_any wr B r gj gg gt gr gm v' ov' (xs k) s (CC k) (DD k) HV.out.inn (HT.out.2.below (HV.out.k.be (B:=B) HB.out (fun i e=>(HA.out i e).1)) HT.out.1) HT.out.1 hok.hi hok.hs hok.c1 hok.c2 hok.c3 hok.c4 hok.c5 hok.c6 hok.hok hok.hst hok.hR hok.hC hok.hD;rw[←hstep]at kt;clear hok hstep hs hlt hc
   go_wp2_with fail
   (with_reducible refine(kt).mono ?_);rintro e1 W1 ⟨rfl,v2,ov2,hk2⟩
   have HV2:=Lib.hid (HV.out.trans hk2);clear kt hk2 HV c0
   go_wp2_with fail
   go_roundw
   case rel=>exact⟨k+1,v2,ov2,by omega,by go_num,HV2⟩
   case measure=>simp[intOf];omega
  ·obtain rfl:n=k:=by omega
   have t3:decide ((n:Int)<(n:Int))=false:=decide_eq_false (by omega);have t3':decide (n<n)=false:=decide_eq_false (by omega)
   go_wp2_with fail
   go_end0
   exact⟨rfl,v',ov',HV.out⟩
end Go.Proofs.YtdbpkhnmhddmmaaGreatDoor.RcC
