import Derived.Test.YtdbpkhnmhddmmaaGreatDoorRnRcD
namespace Go.Proofs.YtdbpkhnmhddmmaaGreatDoor.RcE
open Go Go.RowKit Q Mem Rg Ap St BiH CrB Tab TmA TbM TbO TbP TbU BuB BuC BuI BuN BuO BuP BuS JnP JnA JnD JnE TpW RcA RcB RcC RcD
def rv0 (al:Bool) (pid mac u g b p:Int):Rv:=⟨al,⟨pid,nob,false,0,nob,0⟩,emptyT 256,mac,0,Aw.start u g b p,0,0,0,0,[]⟩
theorem tb_base {w:World} {B B' gt gr:Nat} {v:Value} {S:Tb} (h:TbIn w B gt gr v S) (hb:B'≤B):TbIn w B' gt gr v S:=⟨h.box,h.rows,ApG.own_base h.st hb,h.ne,h.nt,h.nr,Nat.le_trans hb h.bt,Nat.le_trans hb h.br⟩
theorem ga_base {w:World} {B B' g gt gr n:Nat} {v:Value} {S:Tb} {mac:Int} (h:GaA w B g gt gr v S mac n) (hb:B'≤B):GaA w B' g gt gr v S mac n:=⟨⟨h.box,tb_base h.t hb,Nat.le_trans hb h.gb⟩,h.ap⟩
set_option maxRecDepth 100000
set_option maxHeartbeats 1600000 in
theorem rnew_yes (al:Bool) (pid mac u g b p:Int) (w:World) (hT:Tab 1 w) (hp:0≤pid∧pid<8191) (hu: -9223372036854775808≤u∧u≤9223372036854775807) (hg: -9223372036854775808≤g∧g≤9223372036854775807) (hb: -9223372036854775808≤b∧b≤9223372036854775807) (hpp: -9223372036854775808≤p∧p≤9223372036854775807) (hc:Aw.cfg u g b p=true):
 Calls Tryz.prog 9 #[.agg #[.int .i64 pid,.int .i64 mac,.int .i64 256,.bool al,.int .i64 u,.int .i64 g,.int .i64 b,.int .i64 p]] w fun e w'=> ∃(r gj gg gt gr gm:Nat),e= .returned (.tuple #[.pointer (some ⟨r,0,none⟩),.int .i64 0])∧Below w.heap.size w w'∧RvIn w' w.heap.size r gj gg gt gr gm (.slice none 0 0) (.slice none 0 0) (rv0 al pid mac u g b p):=by
 have hb1:=((Below.refl w.heap.size w).alloc (Nat.le_refl _) (.cells #[.int .i64 pid,.int .i64 mac,.int .i64 256,.bool al,.int .i64 u,.int .i64 g,.int .i64 b,.int .i64 p] 25)).alloc (by simp) (.cells #[.bool al,.pointer none,.pointer none,.pointer none,.int .i64 0,.int .i64 0,.int .i64 0,.int .i64 0,.int .i64 0,.int .i64 0,.int .i64 0,.int .i64 0,.int .i64 0,.int .i64 0,.int .i64 0,.int .i64 0,.slice none 0 0] 82);have hB:=Blk.alloc (Blk.new w 25 #[.int .i64 pid,.int .i64 mac,.int .i64 256,.bool al,.int .i64 u,.int .i64 g,.int .i64 b,.int .i64 p]) (.cells #[.bool al,.pointer none,.pointer none,.pointer none,.int .i64 0,.int .i64 0,.int .i64 0,.int .i64 0,.int .i64 0,.int .i64 0,.int .i64 0,.int .i64 0,.int .i64 0,.int .i64 0,.int .i64 0,.int .i64 0,.slice none 0 0] 82);have hR:=Blk.newAt (w.alloc (.cells #[.int .i64 pid,.int .i64 mac,.int .i64 256,.bool al,.int .i64 u,.int .i64 g,.int .i64 b,.int .i64 p] 25)) 82 #[.bool al,.pointer none,.pointer none,.pointer none,.int .i64 0,.int .i64 0,.int .i64 0,.int .i64 0,.int .i64 0,.int .i64 0,.int .i64 0,.int .i64 0,.int .i64 0,.int .i64 0,.int .i64 0,.int .i64 0,.slice none 0 0] (n:=w.heap.size+1) (by simp);have HA:=Lib.hid (And.intro hT (And.intro (And.intro hu (And.intro hg (And.intro hb hpp))) hc));have HP:=Lib.hid hp;clear hT hu hg hb hpp hc hp
 go_enter Tryz.func9,Tryz.ntmps9
 go_upto_region 3 with fail
 refine wp_gen (fun V=>Below w.heap.size w V∧Blk V w.heap.size 25 #[.int .i64 pid,.int .i64 mac,.int .i64 256,.bool al,.int .i64 u,.int .i64 g,.int .i64 b,.int .i64 p]∧Blk V (w.heap.size+1) 82 #[.bool al,.pointer none,.pointer none,.pointer none,.int .i64 0,.int .i64 0,.int .i64 0,.int .i64 0,.int .i64 0,.int .i64 0,.int .i64 0,.int .i64 0,.int .i64 0,.int .i64 0,.int .i64 0,.int .i64 0,.slice none 0 0]) ⟨hb1,hB,hR⟩ ?_;rintro V ⟨hb2,hB2,hR2⟩;clear hb1 hB hR;obtain⟨c,hc⟩: ∃c,w.heap.size=c:=⟨_,rfl⟩;obtain⟨r,hr⟩: ∃r,w.heap.size+1=r:=⟨_,rfl⟩;have HRW:=Lib.hid (show w.heap.size≤r from by omega);rw[hr]at hR2 ⊢;rw[hc]at hB2 hb2 HRW ⊢;clear hr;have HCW:=Lib.hid hc;clear hc;have e0:=Blk.cell hB2 0 (v:= .int .i64 pid) rfl;have kj:=new_yes pid V HP.out;have H2:=Lib.hid (And.intro hb2 (And.intro hB2 hR2));clear hb2 hB2 hR2
 go_wp2_with fail
 (with_reducible refine(kj).mono ?_);rintro e1 V1 ⟨rfl,hj,hb3⟩
 have hR3:=Blk.below H2.out.2.2 hb3 (Blk.lt H2.out.2.2);have d1:=Blk.cell hR3 1 (v:= .pointer none) rfl;have z1:=Blk.frozen hR3 1;have hR4:=Blk.set_ hR3 1 (.pointer (some ⟨V.heap.size,0,none⟩));have hrj:V.heap.size≠r:=fun e=>absurd (Tyb.uniq (tyb_blk hR3) (e▸tyb_blk (show Blk V1 V.heap.size 86 _ from hj))) (by decide);have hrc:c≠r:=fun e=>absurd (Tyb.uniq (tyb_blk H2.out.2.2) (e▸tyb_blk H2.out.2.1)) (by decide);have hcV:c≤V.heap.size:=by rw[←HCW.out];exact H2.out.1.size
 have k1:=kc V1 r 1 (.pointer (some ⟨V.heap.size,0,none⟩))
 have H3:=Lib.hid (show Below c w (V1.setCell ⟨r,1,none⟩ (.pointer (some ⟨V.heap.size,0,none⟩)))∧Blk (V1.setCell ⟨r,1,none⟩ (.pointer (some ⟨V.heap.size,0,none⟩))) c 25 #[.int .i64 pid,.int .i64 mac,.int .i64 256,.bool al,.int .i64 u,.int .i64 g,.int .i64 b,.int .i64 p]∧Blk (V1.setCell ⟨r,1,none⟩ (.pointer (some ⟨V.heap.size,0,none⟩))) r 82 #[.bool al,.pointer (some ⟨V.heap.size,0,none⟩),.pointer none,.pointer none,.int .i64 0,.int .i64 0,.int .i64 0,.int .i64 0,.int .i64 0,.int .i64 0,.int .i64 0,.int .i64 0,.int .i64 0,.int .i64 0,.int .i64 0,.int .i64 0,.slice none 0 0]∧Blk (V1.setCell ⟨r,1,none⟩ (.pointer (some ⟨V.heap.size,0,none⟩))) V.heap.size 86 (jc ⟨pid,nob,false,0,nob,0⟩)∧(c≠r∧c≤V.heap.size∧c≤r)from
  ⟨(H2.out.1.trans (hb3.mono hcV)).trans (k1.be (Nat.le_trans hcV hb3.size) (fun i e=>by rw[e];have:=HRW.out;exact this)),blk_far (Blk.below H2.out.2.1 hb3 (Blk.lt H2.out.2.1)) k1 hrc,hR4,blk_far (show Blk V1 V.heap.size 86 _ from hj) k1 hrj,hrc,hcV,HRW.out⟩)
 clear kj hj hb3 hR3 hR4 hrj hrc k1 e0;clear hcV
 go_upto_region 4 with fail
 refine wp_gen (fun W=>Below c w W∧Blk W c 25 #[.int .i64 pid,.int .i64 mac,.int .i64 256,.bool al,.int .i64 u,.int .i64 g,.int .i64 b,.int .i64 p]∧Blk W r 82 #[.bool al,.pointer (some ⟨V.heap.size,0,none⟩),.pointer none,.pointer none,.int .i64 0,.int .i64 0,.int .i64 0,.int .i64 0,.int .i64 0,.int .i64 0,.int .i64 0,.int .i64 0,.int .i64 0,.int .i64 0,.int .i64 0,.int .i64 0,.slice none 0 0]∧Blk W V.heap.size 86 (jc ⟨pid,nob,false,0,nob,0⟩)) ⟨H3.out.1,H3.out.2.1,H3.out.2.2.1,H3.out.2.2.2.1⟩ ?_;rintro W ⟨hb4,hB4,hR4,hJ4⟩;have HD:=Lib.hid H3.out.2.2.2.2;obtain⟨gj,hgj⟩: ∃g,V.heap.size=g:=⟨_,rfl⟩;rw[hgj]at hR4 hJ4 HD ⊢;clear H3 H2 hgj d1 z1;have e1:=Blk.cell hB4 1 (v:= .int .i64 mac) rfl;have e2:=Blk.cell hB4 2 (v:= .int .i64 256) rfl;have H4:=Lib.hid (And.intro hb4 (And.intro hB4 (And.intro hR4 hJ4)));have kb:=bnew_yes 256 mac W (HA.out.1.be (by rw[HCW.out];exact hb4)) (by decide);clear hb4 hB4 hR4 hJ4
 go_wp2_with fail
 (with_reducible refine(kb).mono ?_);rintro e1 W1 ⟨hb5,R1,gg,gt,gr,hR1,_,_,rfl,hga⟩
 obtain rfl:R1=256:=by omega
 have hR5:=Blk.below H4.out.2.2.1 hb5 (Blk.lt H4.out.2.2.1);have d2:=Blk.cell hR5 2 (v:= .pointer none) rfl;have z2:=Blk.frozen hR5 2;have hR6:=Blk.set_ hR5 2 (.pointer (some ⟨gg,0,none⟩));have hG5:=TpW.ga_new hga;have hcW:c≤W.heap.size:=by rw[←HCW.out];exact H4.out.1.size
 have k2:=kc W1 r 2 (.pointer (some ⟨gg,0,none⟩));have hG6:=ga_base (ga_kept hG5 k2 (fun i hi e=>ga_off hG5 (tyb_blk hR5) (by decide) (by decide) (by decide) (by decide) (e▸hi))) hcW;have hrj:gj≠r:=fun e=>absurd (Tyb.uniq (tyb_blk H4.out.2.2.1) (e▸tyb_blk H4.out.2.2.2)) (by decide)
 have H6:=Lib.hid (show Below c w (W1.setCell ⟨r,2,none⟩ (.pointer (some ⟨gg,0,none⟩)))∧Blk (W1.setCell ⟨r,2,none⟩ (.pointer (some ⟨gg,0,none⟩))) c 25 #[.int .i64 pid,.int .i64 mac,.int .i64 256,.bool al,.int .i64 u,.int .i64 g,.int .i64 b,.int .i64 p]∧Blk (W1.setCell ⟨r,2,none⟩ (.pointer (some ⟨gg,0,none⟩))) r 82 #[.bool al,.pointer (some ⟨gj,0,none⟩),.pointer (some ⟨gg,0,none⟩),.pointer none,.int .i64 0,.int .i64 0,.int .i64 0,.int .i64 0,.int .i64 0,.int .i64 0,.int .i64 0,.int .i64 0,.int .i64 0,.int .i64 0,.int .i64 0,.int .i64 0,.slice none 0 0]∧Blk (W1.setCell ⟨r,2,none⟩ (.pointer (some ⟨gg,0,none⟩))) gj 86 (jc ⟨pid,nob,false,0,nob,0⟩)∧GaA (W1.setCell ⟨r,2,none⟩ (.pointer (some ⟨gg,0,none⟩))) c gg gt gr (.slice none 0 0) (emptyT 256) mac 0 from
  ⟨(H4.out.1.trans (hb5.mono hcW)).trans (k2.be (Nat.le_trans hcW hb5.size) (fun i e=>by rw[e];exact HRW.out)),blk_far (Blk.below H4.out.2.1 hb5 (Blk.lt H4.out.2.1)) k2 HD.out.1,hR6,blk_far (Blk.below H4.out.2.2.2 hb5 (Blk.lt H4.out.2.2.2)) k2 hrj,hG6⟩)
 clear kb hb5 hga hR5 hR6 hG5 hG6 hcW k2 hrj e1 e2 H4 hR1
 go_upto_region 7 with fail
 refine wp_gen (fun W=>Below c w W∧Blk W c 25 #[.int .i64 pid,.int .i64 mac,.int .i64 256,.bool al,.int .i64 u,.int .i64 g,.int .i64 b,.int .i64 p]∧Blk W r 82 #[.bool al,.pointer (some ⟨gj,0,none⟩),.pointer (some ⟨gg,0,none⟩),.pointer none,.int .i64 0,.int .i64 0,.int .i64 0,.int .i64 0,.int .i64 0,.int .i64 0,.int .i64 0,.int .i64 0,.int .i64 0,.int .i64 0,.int .i64 0,.int .i64 0,.slice none 0 0]∧Blk W gj 86 (jc ⟨pid,nob,false,0,nob,0⟩)∧GaA W c gg gt gr (.slice none 0 0) (emptyT 256) mac 0) H6.out ?_;rintro W2 ⟨hb6,hB6,hR6,hJ6,hG6⟩;clear H6 d2 z2;have e4:=Blk.cell hB6 4 (v:= .int .i64 u) rfl;have e5:=Blk.cell hB6 5 (v:= .int .i64 g) rfl;have e6:=Blk.cell hB6 6 (v:= .int .i64 b) rfl;have e7:=Blk.cell hB6 7 (v:= .int .i64 p) rfl;have H7:=Lib.hid (And.intro hb6 (And.intro hR6 (And.intro hJ6 hG6)));have ka:=AwE.new_ok u g b p W2 HA.out.2.1.1 HA.out.2.1.2.1 HA.out.2.1.2.2.1 HA.out.2.1.2.2.2 HA.out.2.2;clear hb6 hB6 hR6 hJ6 hG6
 go_wp2_with fail
 (with_reducible refine(ka).mono ?_);rintro e1 W3 ⟨gm,hgm,rfl,hm,hb7⟩
 have hR7:=Blk.below H7.out.2.1 hb7 (Blk.lt H7.out.2.1);have d3:=Blk.cell hR7 3 (v:= .pointer none) rfl;have z3:=Blk.frozen hR7 3;have hR8:=Blk.set_ hR7 3 (.pointer (some ⟨gm,0,none⟩));have hcW:c≤W2.heap.size:=by rw[←HCW.out];exact H7.out.1.size
 have k3:=kc W3 r 3 (.pointer (some ⟨gm,0,none⟩));have hrj:gj≠r:=fun e=>absurd (Tyb.uniq (tyb_blk H7.out.2.1) (e▸tyb_blk H7.out.2.2.1)) (by decide);have hrm:gm≠r:=fun e=>absurd (Tyb.uniq (tyb_blk hR7) (e▸tyb_blk (show Blk W3 gm 96 _ from hm))) (by decide);have hG7:=H7.out.2.2.2.below hb7
 have HE:=Lib.hid (show Below c w (W3.setCell ⟨r,3,none⟩ (.pointer (some ⟨gm,0,none⟩)))∧RvIn (W3.setCell ⟨r,3,none⟩ (.pointer (some ⟨gm,0,none⟩))) c r gj gg gt gr gm (.slice none 0 0) (.slice none 0 0) (rv0 al pid mac u g b p)from
  ⟨(H7.out.1.trans (hb7.mono hcW)).trans (k3.be (Nat.le_trans hcW hb7.size) (fun i e=>by rw[e];exact HRW.out)),hR8,blk_far (Blk.below H7.out.2.2.1 hb7 (Blk.lt H7.out.2.2.1)) k3 hrj,ga_kept hG7 k3 (fun i hi e=>ga_off hG7 (tyb_blk hR7) (by decide) (by decide) (by decide) (by decide) (e▸hi)),blk_far (show Blk W3 gm 96 _ from hm) k3 hrm,World.ownsRow_nil _ _ _ _,HD.out.2.2,HD.out.2.1,Nat.le_trans hcW hgm⟩)
 clear ka hgm hm hb7 hR7 hR8 hcW k3 hrj hrm hG7 H7 e4 e5 e6 e7
 go_wp2_with fail
 go_ret2
 exact⟨r,gj,gg,gt,gr,gm,rfl,by rw[HCW.out];exact HE.out.1,by rw[HCW.out];exact HE.out.2⟩
theorem flush_nil (w:World):Calls Tryz.prog 19 #[.pointer none] w fun e w'=>e= .returned (.slice none 0 0)∧w=w':=by
 go_enter Tryz.func19,Tryz.ntmps19
 go_wp2_with fail
 go_ret;exact⟨rfl,rfl⟩
def stat0:Value:= .agg #[.int .i64 0,.int .i64 0,.int .i64 0,.int .i64 0,.int .i64 0,.int .i64 0,.int .i64 0,.int .i64 0,.int .i64 0,.int .i64 0,.int .i64 0,.int .i64 0]
theorem stat_nil (w:World):Calls Tryz.prog 25 #[.pointer none] w fun e w'=>e= .returned stat0∧Below w.heap.size w w':=by
 go_enter Tryz.func25,Tryz.ntmps25
 go_wp2
 refine bodyPost_ret (v:=stat0) (by simp[results,Tryz.results25,go_sem,stat0]) rfl ⟨rfl,?_⟩;exact(Below.refl _ _).alloc (Nat.le_refl _) _
theorem all1_nil (w:World) (b c:Nat) (t:ByteArray) (h0:w.cell? ⟨b,0,none⟩=some (.pointer none)) (h1:w.cell? ⟨c,0,none⟩=some (.slice none 0 0)) (hz:w.frozen? ⟨c,0,none⟩=false):
 Calls Tryz.prog 54 #[.string t,.pointer (some ⟨b,0,none⟩),.pointer (some ⟨c,0,none⟩)] w fun e w'=>e= .returned (.tuple #[])∧w'=w.setCell ⟨c,0,none⟩ (.slice none 0 0):=by
 go_enter Tryz.func54,Tryz.ntmps54
 go_wp2_with fail
 (with_reducible refine(slot_nil t w).mono ?_);rintro e1 V1 ⟨rfl,rfl⟩
 go_wp2_with fail
 go_end0
 exact⟨rfl,rfl⟩
theorem each_nil (w W0:World) (b c:Nat) (L:List ByteArray) (a:Option Addr) (n cp:Nat) (hbe:Below w.heap.size w W0) (hB:Blk W0 b 28 #[.pointer none]) (hC:Blk W0 c 26 #[.slice none 0 0]) (hc:w.heap.size≤c)
 (hL:Seq enS 1 w a L) (hn:L.length=n) (hn2:n≤1000000):
 Calls Tryz.prog 50 #[.slice a n cp,.func (.func 54) #[] #[.pointer (some ⟨b,0,none⟩),.pointer (some ⟨c,0,none⟩)]] W0 fun e w'=>e= .returned (.tuple #[])∧Below w.heap.size w w'∧Blk w' c 26 #[.slice none 0 0]:=by
 have H0:=Lib.hid (And.intro hbe (And.intro hB hC));have HL:=Lib.hid hL;have HN:=Lib.hid hn;have HC:=Lib.hid hc;have n0:(0:Int)≤(n:Int):=Int.natCast_nonneg _;clear hbe hB hC hL hn hc
 go_enter Tryz.func50,Tryz.ntmps50
 go_wp2_with fail
 go_loopw [8] (fun iv W=> ∃k:Nat,k≤n∧iv= .int .i64 k∧Hid (Below w.heap.size w W∧Blk W b 28 #[.pointer none]∧Blk W c 26 #[.slice none 0 0])) (fun iv _=>n-(intOf iv).toNat)
 case atStart=>exact⟨0,by omega,rfl,H0⟩
 case round=>
  obtain⟨k,hk,rfl,HV⟩:=hrel;have k0:(0:Int)≤(k:Int):=Int.natCast_nonneg _;by_cases hkn:k<n
  ·have t3:decide ((k:Int)<(n:Int))=true:=decide_eq_true (by omega)
   have t3':decide (k<n)=true:=decide_eq_true hkn;have k1:(k:Int)<(n:Int):=by omega
   obtain⟨s,hs⟩: ∃s,L[k]? =some s:=⟨_,List.getElem?_eq_getElem (by rw[HN.out];exact hkn)⟩;obtain⟨b0,o0,rfl,hlt,hc⟩:=HL.out k s hs;have c0:wr.cell? ⟨b0,o0+k,none⟩=some (.string s):=(World.cell?_of_block (a:=⟨b0,o0+k,none⟩) (HV.out.1.block b0 hlt)).trans (by have:=hc 0 (.string s) rfl;simpa [off]using this);have ka:=all1_nil wr b c s (Blk.cell HV.out.2.1 0 rfl) (Blk.cell HV.out.2.2 0 rfl) (Blk.frozen HV.out.2.2 0);have hbc:b≠c:=fun e=>absurd (Tyb.uniq (tyb_blk HV.out.2.1) (e▸tyb_blk HV.out.2.2)) (by decide)
   have HV2:=Lib.hid (show Below w.heap.size w (wr.setCell ⟨c,0,none⟩ (.slice none 0 0))∧Blk (wr.setCell ⟨c,0,none⟩ (.slice none 0 0)) b 28 #[.pointer none]∧Blk (wr.setCell ⟨c,0,none⟩ (.slice none 0 0)) c 26 #[.slice none 0 0]from
    ⟨HV.out.1.trans ((kc wr c 0 (.slice none 0 0)).be HV.out.1.size (fun i e=>by rw[e];exact HC.out)),blk_far HV.out.2.1 (kc wr c 0 (.slice none 0 0)) hbc,Blk.set_ HV.out.2.2 0 _⟩)
   clear hs hlt hc hbc HV
   go_wp2_with fail
   (with_reducible refine(ka).mono ?_);rintro e1 W1 ⟨rfl,rfl⟩
   clear ka c0
   go_wp2_with fail
   go_roundw
   case rel=>exact⟨k+1,by omega,by go_num,HV2⟩
   case measure=>simp[intOf];omega
  ·obtain rfl:n=k:=by omega
   have t3:decide ((n:Int)<(n:Int))=false:=decide_eq_false (by omega);have t3':decide (n<n)=false:=decide_eq_false (by omega)
   go_wp2_with fail
   go_end0
   exact⟨rfl,HV.out.1,HV.out.2.2⟩
theorem all_nil (w:World) (L:List ByteArray) (a:Option Addr) (n cp:Nat) (hL:Seq enS 1 w a L) (hn:L.length=n) (hn2:n≤1000000):
 Calls Tryz.prog 28 #[.pointer none,.slice a n cp] w fun e w'=>e= .returned (.slice none 0 0)∧Below w.heap.size w w':=by
 have hmf: ∀(fn:Fn) (first cap:Array Value) (w:World),(Instr.makeFunc fn first cap).run Tryz.prog w= .ok (.func fn first cap) w:=fun _ _ _ _=>rfl;have ke:=each_nil w ((w.alloc (.cells #[.pointer none] 28)).alloc (.cells #[.slice none 0 0] 26)) w.heap.size (w.heap.size+1) L a n cp (((Below.refl w.heap.size w).alloc (Nat.le_refl _) _).alloc (by simp) _) (Blk.alloc (Blk.new w 28 #[.pointer none]) _) (Blk.newAt _ _ _ (by simp)) (by omega) hL hn hn2;clear hL hn hn2
 go_enter Tryz.func28,Tryz.ntmps28
 go_wp2_with fail
 (with_reducible refine(ke).mono ?_);rintro e1 W1 ⟨rfl,hb,hC⟩
 have c0:=Blk.cell hC 0 (v:= .slice none 0 0) rfl;clear ke hC
 go_wp2_with fail
 go_ret;exact⟨rfl,hb⟩
end Go.Proofs.YtdbpkhnmhddmmaaGreatDoor.RcE
