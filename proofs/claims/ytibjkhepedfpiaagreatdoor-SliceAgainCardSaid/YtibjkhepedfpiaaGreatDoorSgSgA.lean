import Derived.Test.YtibjkhepedfpiaaGreatDoorSgSbQ
import Derived.Test.YtibjkhepedfpiaaGreatDoorSgLyS
namespace Go.Proofs.YtibjkhepedfpiaaGreatDoor.SgA
open Go Go.RowKit Q Mem Rg Ap ApG St CrB Tab PaA PaR PaK PaP SlM SlA SlB SlC SlP SlR SlS SlW SlX SlT SlOpn LyA LyM LyS SbP SbB SbQ
set_option maxRecDepth 100000
set_option maxHeartbeats 12800000 in
theorem law_any (u0 u1:Int) (a:Option Addr) (n c:Nat) (L:List Rn) (w:World) (hT:Tab 2 w) (hn:L.length=n) (hl:n≤9223372036854775807) (hL:Seq enRn 3 w a L) (hin: ∀r∈L,RnIn w r):
 Calls Tryz.prog 3 #[.agg #[.int .i64 u0,.int .i64 u1],.slice a n c] w fun e w'=>e= .returned (.bool true)∧Below w.heap.size w w':=by
 have hB0:=Blk.new w 22 #[.int .i64 u0,.int .i64 u1];have hbw:=(Below.refl w.heap.size w).alloc (Nat.le_refl _) (.cells #[.int .i64 u0,.int .i64 u1] 22);obtain⟨w0,hw0⟩: ∃w0,w.alloc (.cells #[.int .i64 u0,.int .i64 u1] 22)=w0:=⟨_,rfl⟩;rw[hw0]at hB0 hbw;have kf:=few_any a n c L w0 hn hl (hL.below (Nat.le_refl _) hbw) (fun r hr=>⟨(hin r hr).1.below (Nat.le_refl _) hbw,(hin r hr).2.1⟩);obtain⟨F,hF⟩: ∃F,fewB L=F:=⟨_,rfl⟩;rw[hF]at kf;have HL:=Lib.hid (hL.below (Nat.le_refl _) hbw);have HN:=Lib.hid hn;have HIN:=Lib.hid (show ∀r∈L,RnIn w0 r from fun r hr=>⟨(hin r hr).1.below (Nat.le_refl _) hbw,(hin r hr).2⟩);have HF:=Lib.hid hF;have HT:=Lib.hid (hT.be hbw);have c0:=Blk.cell hB0 0 (v:= .int .i64 u0) rfl;have c1:=Blk.cell hB0 1 (v:= .int .i64 u1) rfl;have HB0:=Lib.hid hB0;clear hL hn hin hF hT hB0
 cases F with
 |false=>
  go_enter Tryz.func3,Tryz.ntmps3
  go_wp2_with fail
  (with_reducible refine(kf).mono ?_);rintro e1 W1 ⟨rfl,rfl⟩
  go_wp2_with fail
  (with_reducible refine(awake_any _).mono ?_);rintro e8 W8 ⟨rfl,hb8⟩
  go_wp2_with fail
  go_ret;exact⟨rfl,(hbw).trans (hb8.mono (hbw).size)⟩
 |true=>
  have hfw:n≤8∧ ∀r∈L,fewR r:=by
   have h:=HF.out;unfold fewB at h;simp only[Bool.and_eq_true,decide_eq_true_eq,List.all_eq_true]at h;exact⟨by have:=h.2;rw[HN.out]at this;exact this,h.1⟩
  have hn8:=hfw.1;have kb:=bursts_any a n c L w0 HN.out (by omega) HL.out HIN.out (fun r hr=>(hfw.2 r hr).1)
  have hsm: ∀b∈L.map rb,Small b∧b.S.length≤8:=fun b hb=>by
   obtain⟨r,hr,rfl⟩:=List.mem_map.1 hb;exact⟨rb_small (hfw.2 r hr) (HIN.out r hr).2.2,by show(r.l.map Pc.bytes).length≤8;rw[List.length_map];exact(hfw.2 r hr).1⟩
  obtain⟨BL,hBL⟩: ∃BL,L.map rb=BL:=⟨_,rfl⟩;have hbl:BL.length=n:=by rw[←hBL,List.length_map,HN.out]
  rw[hBL]at kb hsm;have HSM:=Lib.hid hsm;have HBN:=Lib.hid hbl;clear hfw hsm hBL hbl HL HIN HF HN c0 c1
  go_enter Tryz.func3,Tryz.ntmps3
  go_wp2_with fail
  (with_reducible refine(kf).mono ?_);rintro e1 W1 ⟨rfl,rfl⟩
  clear kf
  go_wp2_with fail
  (with_reducible refine(kb).mono ?_);rintro e2 W2 ⟨v,D,rfl,hD,hown,hDok,hb2⟩
  clear kb;have hDl:D.length=n:=by rw[←HBN.out,←hD,List.length_map]
  obtain⟨ad,cd,rfl,hcd⟩:=own_cap hown;have hsq:=own_seq (en:=enBu) enBu_len hown hDl;have hsD: ∀x∈D,Small x.b:=fun x hx=>(HSM.out x.b (by rw[←hD];exact List.mem_map_of_mem hx)).1;have kw:=wrong_any ad n cd D W2 hDl (by omega) hsq hDok hsD;have kl:=fun u V (hV:Below W2.heap.size W2 V) (hd:checkE 0 BL=0→(1≤u∧u≤1048576)→Dom u BL)=>SbB.stamp_any u ad n cd D V ((HT.out.be hb2).be hV) hDl (by omega) hcd (hsq.below (Nat.le_refl _) hV) (fun x hx=>(hDok x hx).below (Nat.le_refl _) hV) hsD (by rw[hD];exact hd);rw[hD]at kw kl;have hB2:=Blk.below HB0.out hb2 HB0.out.lt;have HB2:=Lib.hid hB2;have hbw20:=hb2;have hbw2:=hbw.trans (hb2.mono hbw.size);clear hown hDl hsq hsD hDok hD hcd hB2;by_cases hce:checkE 0 BL=0
  ·rw[if_pos hce,hce]at kw
   obtain⟨en,hen⟩: ∃en,endE 0 BL=en:=⟨_,rfl⟩;rw[hen]at kw;have HCE:=Lib.hid hce;have HEN:=Lib.hid hen;by_cases hnr:en<1000
   ·have t1:decide (en<1000)=true:=decide_eq_true hnr
    have kn:=fun V=>near_any en V;rw[t1]at kn;have kl2:=fun u V hV=>kl u V hV (fun h1 h2=>⟨h2,h1,by omega⟩);clear hce hen t1 kl
    go_wp2_with fail
    (with_reducible refine(kw).mono ?_);rintro e3 W3 ⟨rfl,hb3⟩
    clear kw
    go_wp2_with fail
    (with_reducible refine(kn _).mono ?_);rintro e4 W4 ⟨rfl,rfl⟩
    have hB3:=Blk.below HB2.out hb3 HB2.out.lt;have c1:=Blk.cell hB3 1 (v:= .int .i64 u1) rfl;clear kn;by_cases hu1:1≤u1∧u1≤1048576
    ·have ks1:=(kl2 u1 W3 hb3).mono fun e w' h=>And.intro h.be (h.ok HCE.out hu1)
     have z1:decide (u1<1)=false:=decide_eq_false (by omega);have z2:decide (1048576<u1)=false:=decide_eq_false (by omega);have HU1:=Lib.hid hu1;clear hu1
     go_wp2_with fail
     (with_reducible refine(ks1).mono ?_);rintro e5 W5 ⟨hb5,v5,D5,rfl,hD5,hown5,hDok5⟩
     have hb35:=hb3.trans (hb5.mono hb3.size);obtain⟨a5,c5,rfl,_⟩:=own_cap hown5;have hB5:=Blk.below HB2.out hb35 HB2.out.lt;have d0:=Blk.cell hB5 0 (v:= .int .i64 u0) rfl;have d1:=Blk.cell hB5 1 (v:= .int .i64 u1) rfl;clear ks1 c1;by_cases hu0:1≤u0∧u0≤1048576
     ·have ks0:=(kl2 u0 W5 hb35).mono fun e w' h=>And.intro h.be (h.ok HCE.out hu0)
      have HU0:=Lib.hid hu0;have hDom:Dom u0 BL:=⟨hu0,HCE.out,by rw[HEN.out];omega⟩;have hsl:=dom_sl hDom;have hchk:=stp_check hu0.1 BL 0 hsl;have htw:=stp_twice hu0.1 u1 BL 0 hsl;have hsml:=small_stp hu0.1 BL 0 hsl HSM.out;have HPL:=Lib.hid (And.intro hchk (And.intro htw hsml))
      have hl5:D5.length=n:=by
       have:=congrArg List.length hD5;rw[List.length_map,stp_len,HBN.out]at this;exact this
      have HS5:=Lib.hid (And.intro (own_seq (en:=enBu) enBu_len hown5 hl5) hDok5);have HD5:=Lib.hid hD5;clear hu0 hDom hsl hchk htw hsml kl2 hown5 hDok5 hl5 hD5
      go_wp2_with fail
      (with_reducible refine(ks0).mono ?_);rintro e6 W6 ⟨hb6,v6,D6,rfl,hD6,hown6,hDok6⟩
      have hb36:=hb35.trans (hb6.mono hb35.size);obtain⟨a6,c6,rfl,hc6⟩:=own_cap hown6
      have hl6:D6.length=n:=by
       have:=congrArg List.length hD6;rw[List.length_map,stp_len,HBN.out]at this;exact this
      have hsm6: ∀x∈D6,Small x.b∧x.b.S.length≤8:=fun x hx=>HPL.out.2.2 x.b (by rw[←hD6];exact List.mem_map_of_mem hx);have ks2:=SbB.stamp_any u1 a6 n c6 D6 W6 ((HT.out.be (show Below w0.heap.size w0 W6 from hbw20.trans (hb36.mono hbw20.size)))) hl6 (by omega) hc6 (own_seq (en:=enBu) enBu_len hown6 hl6) hDok6 (fun x hx=>(hsm6 x hx).1) (by rw[hD6];exact fun h1 h2=>⟨h2,h1,by rw[HPL.out.1.2,HEN.out];omega⟩);rw[hD6]at ks2;have ks3:=ks2.mono fun e w' h=>And.intro h.be (h.ok HPL.out.1.1 HU1.out);have hB6:=Blk.below HB2.out hb36 HB2.out.lt;have f1:=Blk.cell hB6 1 (v:= .int .i64 u1) rfl;clear ks0 ks2 hsm6 hl6 hown6 hDok6 hD6 d0 d1
      go_wp2_with fail
      (with_reducible refine(ks3).mono ?_);rintro e7 W7 ⟨hb7,v7,D7,rfl,hD7,hown7,hDok7⟩
      rw[HPL.out.2.1,←HD5.out]at hD7;have hb57:=hb6.trans (hb7.mono hb6.size);have hb37:=hb35.trans (hb57.mono hb35.size);obtain⟨a7,c7,rfl,_⟩:=own_cap hown7
      have hl7:D7.length=n:=by
       have:=congrArg List.length hD7;have h5:=congrArg List.length HD5.out;rw[List.length_map,stp_len,HBN.out]at h5;rw[List.length_map,List.length_map]at this;omega
      have HS7:=Lib.hid (And.intro (own_seq (en:=enBu) enBu_len hown7 hl7) hDok7);have HDD:=Lib.hid (And.intro hD7 hl7)
      have h8s: ∀d∈D7,d.b.S.length≤8:=fun d hd=>by
       have h1:d.b∈D5.map Bu.b:=by rw[←hD7];exact List.mem_map_of_mem hd
       rw[HD5.out]at h1;exact(small_stp HU1.out.1 BL 0 (dom_sl ⟨HU1.out,HCE.out,by rw[HEN.out];omega⟩) HSM.out d.b h1).2
      have H8S:=Lib.hid h8s;have HB57:=Lib.hid (And.intro hb57 hb37);clear ks3 f1 hown7 hDok7 hl7 hD7 h8s hb57 hb37 hb6 hb7 hb36 hb35 hB6 hB5 hB3 hc6
      go_wp2_with fail
      go_loopw [14] (fun iv wr=> ∃q:Nat,q≤n∧iv= .int .i64 q∧Below W7.heap.size W7 wr) (fun iv _=>n-(intOf iv).toNat)
      case atStart=>exact⟨0,by omega,rfl,Below.refl _ _⟩
      case round=>
       obtain⟨q,hq,rfl,hbr⟩:=hrel;by_cases hqn:q<n
       ·have t2:decide (q<n)=true:=decide_eq_true hqn
        obtain⟨d7,hd7⟩: ∃d,D7[q]? =some d:=⟨_,List.getElem?_eq_getElem (by rw[HDD.out.2];exact hqn)⟩
        obtain⟨d5,hd5⟩: ∃d,D5[q]? =some d:=by
         have h1:(D5.map Bu.b)[q]? =some d7.b:=by rw[←HDD.out.1,List.getElem?_map,hd7];rfl
         rw[List.getElem?_map,Option.map_eq_some_iff]at h1;obtain⟨d,h2,_⟩:=h1;exact⟨d,h2⟩
        have heq:d7.b=d5.b:=by
         have h1:(D5.map Bu.b)[q]? =some d7.b:=by rw[←HDD.out.1,List.getElem?_map,hd7];rfl
         rw[List.getElem?_map,hd5]at h1;injection h1 with h1
         exact h1.symm
        obtain⟨B7,O7,rfl,l7,p7⟩:=HS7.out.1 q d7 hd7;obtain⟨B5,O5,rfl,l5,p5⟩:=HS5.out.1 q d5 hd5;have j0:(0:Int)≤(q:Int):=Int.natCast_nonneg _;have j1:(q:Int)<(n:Int):=by omega
        have y1:=p7 1 _ rfl;have y2:=p7 2 _ rfl;have x1:=p5 1 _ rfl;have x2:=p5 2 _ rfl;rw[off_eq]at y1 y2 x1 x2;have hk7:=HS7.out.2 d7 (List.mem_of_getElem? hd7);have hk5:=HS5.out.2 d5 (List.mem_of_getElem? hd5);have h8:=H8S.out d7 (List.mem_of_getElem? hd7);obtain⟨⟨py,ay,S⟩,sa7,sc7⟩:=d7;obtain⟨b5,sa5,sc5⟩:=d5;obtain rfl:b5=⟨py,ay,S⟩:=heq.symm;dsimp only at y1 y2 x1 x2 hk7 hk5 h8;obtain⟨ns,hns⟩: ∃ns,S.length=ns:=⟨_,rfl⟩;rw[hns]at y2 x2 h8;have hz7:=fun p=>hbr.trans ((below_ext wr p).mono hbr.size);have hz5:=fun p=>HB57.out.1.trans ((hz7 p).mono HB57.out.1.size);have s1: ∀p,(ext wr p).cell? ⟨B7,O7+q*3+1,none⟩=some (.int .i64 ay):=fun p=>((hz7 p).cell (p:=⟨B7,O7+q*3+1,none⟩) l7).trans y1;have s2: ∀p,(ext wr p).cell? ⟨B7,O7+q*3+2,none⟩=some (.slice sa7 ns sc7):=fun p=>((hz7 p).cell (p:=⟨B7,O7+q*3+2,none⟩) l7).trans y2;have s3: ∀p,(ext wr p).cell? ⟨B5,O5+q*3+1,none⟩=some (.int .i64 ay):=fun p=>((hz5 p).cell (p:=⟨B5,O5+q*3+1,none⟩) l5).trans x1;have s4: ∀p,(ext wr p).cell? ⟨B5,O5+q*3+2,none⟩=some (.slice sa5 ns sc5):=fun p=>((hz5 p).cell (p:=⟨B5,O5+q*3+2,none⟩) l5).trans x2;have kss:=fun p=>same_any sa7 sa5 ns sc7 ns sc5 S S (ext wr p) hns hns (by omega) (hk7.s.below (Nat.le_refl _) (hz7 p)) (hk5.s.below (Nat.le_refl _) (hz5 p));rw[decide_eq_true rfl]at kss;clear hd7 hd5 heq p7 p5 y1 y2 x1 x2 hk7 hk5 hns hz5 l7 l5
        go_wp2_with fail
        refine Go.Proofs.YtibjkhepedfpiaaGreatDoor.Q.region_ext (by kernel_rfl) (by kernel_rfl) ?_
        repeat (go_big_quiet_step ((go_at_call 12;refine ext_call (kss _))))
        refine wpQuiet_nil ?_;rintro w9 ⟨pq,rfl⟩;have hbq:=hz7 pq;clear s1 s2 s3 s4 kss hz7
        go_wp2_with fail
        go_roundw
        case rel=>exact⟨q+1,by omega,by go_num,hbq⟩
        case measure=>simp[intOf];omega
       ·obtain rfl:q=n:=by omega
        have t2:decide (q<q)=false:=by simp
        have hbz:=hbw2.trans ((HB57.out.2.trans (hbr.mono HB57.out.2.size)).mono hbw2.size)
        go_wp2_with fail
        (with_reducible refine(awake_any _).mono ?_);rintro e8 W8 ⟨rfl,hb8⟩
        go_wp2_with fail
        go_ret;exact⟨rfl,(hbz).trans (hb8.mono (hbz).size)⟩
     ·have ks0:=(kl2 u0 W5 hb35).mono fun e w' h=>And.intro h.be (h.un HCE.out hu0)
      by_cases hu00:u0<1
      ·have q1:decide (u0<1)=true:=decide_eq_true hu00
       clear hu00 hu0 kl2
       go_wp2_with fail
       (with_reducible refine(ks0).mono ?_);rintro e6 W6 ⟨hb6,rfl⟩
       have hb36:=hb35.trans (hb6.mono hb35.size);have hB6:=Blk.below HB2.out hb36 HB2.out.lt;have f0:=Blk.cell hB6 0 (v:= .int .i64 u0) rfl;clear ks0 d0 d1
       go_wp2_with fail
       (with_reducible refine(awake_any _).mono ?_);rintro e8 W8 ⟨rfl,hb8⟩
       go_wp2_with fail
       go_ret;exact⟨rfl,(hbw2.trans (hb36.mono hbw2.size)).trans (hb8.mono (hbw2.trans (hb36.mono hbw2.size)).size)⟩
      ·have q1:decide (u0<1)=false:=decide_eq_false hu00
       have q2:decide (1048576<u0)=true:=decide_eq_true (by omega);clear hu00 hu0 kl2
       go_wp2_with fail
       (with_reducible refine(ks0).mono ?_);rintro e6 W6 ⟨hb6,rfl⟩
       have hb36:=hb35.trans (hb6.mono hb35.size);have hB6:=Blk.below HB2.out hb36 HB2.out.lt;have f0:=Blk.cell hB6 0 (v:= .int .i64 u0) rfl;clear ks0 d0 d1
       go_wp2_with fail
       (with_reducible refine(awake_any _).mono ?_);rintro e8 W8 ⟨rfl,hb8⟩
       go_wp2_with fail
       go_ret;exact⟨rfl,(hbw2.trans (hb36.mono hbw2.size)).trans (hb8.mono (hbw2.trans (hb36.mono hbw2.size)).size)⟩
    ·have ks1:=(kl2 u1 W3 hb3).mono fun e w' h=>And.intro h.be (h.un HCE.out hu1)
     by_cases hu11:u1<1
     ·have q1:decide (u1<1)=true:=decide_eq_true hu11
      clear hu11 hu1 kl2
      go_wp2_with fail
      (with_reducible refine(ks1).mono ?_);rintro e5 W5 ⟨hb5,rfl⟩
      have hb35:=hb3.trans (hb5.mono hb3.size);have hB5:=Blk.below HB2.out hb35 HB2.out.lt;have d1:=Blk.cell hB5 1 (v:= .int .i64 u1) rfl;clear ks1 c1
      go_wp2_with fail
      (with_reducible refine(awake_any _).mono ?_);rintro e8 W8 ⟨rfl,hb8⟩
      go_wp2_with fail
      go_ret;exact⟨rfl,(hbw2.trans (hb35.mono hbw2.size)).trans (hb8.mono (hbw2.trans (hb35.mono hbw2.size)).size)⟩
     ·have q1:decide (u1<1)=false:=decide_eq_false hu11
      have q2:decide (1048576<u1)=true:=decide_eq_true (by omega);clear hu11 hu1 kl2
      go_wp2_with fail
      (with_reducible refine(ks1).mono ?_);rintro e5 W5 ⟨hb5,rfl⟩
      have hb35:=hb3.trans (hb5.mono hb3.size);have hB5:=Blk.below HB2.out hb35 HB2.out.lt;have d1:=Blk.cell hB5 1 (v:= .int .i64 u1) rfl;clear ks1 c1
      go_wp2_with fail
      (with_reducible refine(awake_any _).mono ?_);rintro e8 W8 ⟨rfl,hb8⟩
      go_wp2_with fail
      go_ret;exact⟨rfl,(hbw2.trans (hb35.mono hbw2.size)).trans (hb8.mono (hbw2.trans (hb35.mono hbw2.size)).size)⟩
   ·have t1:decide (en<1000)=false:=decide_eq_false hnr
    have kn:=fun V=>near_any en V;rw[t1]at kn;clear hen hce t1 kl
    go_wp2_with fail
    (with_reducible refine(kw).mono ?_);rintro e3 W3 ⟨rfl,hb3⟩
    clear kw
    go_wp2_with fail
    (with_reducible refine(kn _).mono ?_);rintro e4 W4 ⟨rfl,rfl⟩
    go_wp2_with fail
    (with_reducible refine(awake_any _).mono ?_);rintro e8 W8 ⟨rfl,hb8⟩
    go_wp2_with fail
    go_ret;exact⟨rfl,(hbw2.trans (hb3.mono hbw2.size)).trans (hb8.mono (hbw2.trans (hb3.mono hbw2.size)).size)⟩
  ·rw[if_neg hce]at kw
   have kl2:=fun u V hV=>(kl u V hV (fun h=>absurd h hce)).mono fun e w' h=>And.intro h.be (h.bad hce);obtain⟨CE,hCE⟩: ∃CE,checkE 0 BL=CE:=⟨_,rfl⟩;rw[hCE]at kw kl2 hce;have x0:(CE==0)=false:=beq_eq_false_iff_ne.2 hce;have x2:(CE !=0)=true:=bne_iff_ne.2 hce;clear hCE hce kl
   go_wp2_with fail
   (with_reducible refine(kw).mono ?_);rintro e3 W3 ⟨rfl,hb3⟩
   have kl1:=kl2 u1 W3 hb3;have hB3:=Blk.below HB2.out hb3 HB2.out.lt;have c1:=Blk.cell hB3 1 (v:= .int .i64 u1) rfl;clear kw
   go_wp2_with fail
   (with_reducible refine(kl1).mono ?_);rintro e5 W5 ⟨hb5,rfl⟩
   have hb25:=hb3.trans (hb5.mono hb3.size);have kl0:=kl2 u0 W5 hb25;have hB5:=Blk.below HB2.out hb25 HB2.out.lt;have c0:=Blk.cell hB5 0 (v:= .int .i64 u0) rfl;clear kl1 kl2 c1
   go_wp2_with fail
   (with_reducible refine(kl0).mono ?_);rintro e6 W6 ⟨hb6,rfl⟩
   have hb26:=hb25.trans (hb6.mono hb25.size);clear kl0 c0
   go_wp2_with fail
   (with_reducible refine(awake_any _).mono ?_);rintro e8 W8 ⟨rfl,hb8⟩
   go_wp2_with fail
   go_ret;exact⟨rfl,(hbw2.trans (hb26.mono hbw2.size)).trans (hb8.mono (hbw2.trans (hb26.mono hbw2.size)).size)⟩
end Go.Proofs.YtibjkhepedfpiaaGreatDoor.SgA
