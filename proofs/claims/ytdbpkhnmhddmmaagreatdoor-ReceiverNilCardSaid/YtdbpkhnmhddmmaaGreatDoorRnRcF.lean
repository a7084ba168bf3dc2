import Derived.Test.YtdbpkhnmhddmmaaGreatDoorRnRcE
namespace Go.Proofs.YtdbpkhnmhddmmaaGreatDoor.RcF
open Go Go.RowKit Q Mem Rg Ap St BiH CrB Ints Tab TbM TbO TbP FrA FrB FrC LaA LaH BuC BuE BuI BuL BuN BoP FrG TpM TpP TpW RcA RcB RcC RcD RcE
set_option maxRecDepth 100000
theorem plain_any (al:Bool) (w:World):Calls Tryz.prog 27 #[.bool al] w fun e w'=>e= .returned (.agg #[.int .i64 17,.int .i64 (-1),.int .i64 256,.bool al,.int .i64 10,.int .i64 3,.int .i64 300,.int .i64 300])∧Below w.heap.size w w':=by
 go_enter Tryz.func27,Tryz.ntmps27
 go_wp2
 refine bodyPost_ret (v:= .agg #[.int .i64 17,.int .i64 (-1),.int .i64 256,.bool al,.int .i64 10,.int .i64 3,.int .i64 300,.int .i64 300]) (by simp[results,Tryz.results27,go_sem]) rfl ⟨rfl,?_⟩;exact(Below.refl _ _).alloc (Nat.le_refl _) _
theorem fr_off {w:World} {B gf gr i:Nat} {v:Value} {S:Fr} {t:TypeId} (h:FrIn w B gf gr v S) (hi:Tyb w i t) (h1:t≠210) (h2:t≠215) (h3:t≠217): ¬footF gf gr v i:=by
 rintro(e|e|e)
 ·subst e;exact h1 (hi.uniq (tyb_blk h.box))
 ·subst e
  obtain⟨cs,h5,_⟩:=h.rows;exact h2 (hi.uniq ⟨_,_,h5⟩)
 ·exact h3 (hi.uniq (tyb_own h.l e))
structure MdIn (m:Nat) (K:Int) (l:List Int) (w:World) (e:Ending) (w':World):Prop where
 zero:l=[]→e= .returned (.tuple #[.slice none 0 0,.slice none 0 0,.bool true])
 full:l≠[]→ ∃(k mb mo c:Nat) (gv:Value),K=(k:Int)∧k≤64∧e= .returned (.tuple #[.slice (some ⟨mb,mo,none⟩) (mkL (frD 256 191 k (gramL m l)) 5).length c,gv,.bool true])∧Slc w' (some ⟨mb,mo,none⟩) (mkL (frD 256 191 k (gramL m l)) 5).length c (mkL (frD 256 191 k (gramL m l)) 5)∧(mkL (frD 256 191 k (gramL m l)) 5).length≤c∧FrS (frD 256 191 k (gramL m l))∧(frD 256 191 k (gramL m l)).L.map (·.2)=gramL m l∧w'.ownsRow w.heap.size 9 1 gv l.length (flat enS (gramL m l))∧mb<w'.heap.size
 be:Below w.heap.size w w'
set_option maxHeartbeats 3200000 in
theorem made22_any (K:Int) (a:Option Addr) (n c m:Nat) (l:List Int) (w:World) (hT:Tab 4 w) (hF:Tab 2 w) (hn:l.length=n) (hl:n≤6) (hL:Ints w a l) (hs: ∀x∈l,x≤1000) (hK:0≤K∧K≤64) (hm:m≤200):
 Calls Tryz.prog 34 #[.slice a n c,.int .i64 K,.int .i64 (m:Int)] w fun e w'=>MdIn m K l w e w':=by
 obtain⟨Q,hQ⟩: ∃Q:Ending→World→Prop,Q=(fun e w'=>MdIn m K l w e w'):=⟨_,rfl⟩;rw[←hQ];have HR:=Lib.hid hQ;have HN:=Lib.hid hn;have hok:okC 256 191 K=true:=by unfold okC;rw[show isSz 256=true from by decide,decide_eq_true hK.1,decide_eq_true hK.2];rfl
 have HA:=Lib.hid (fun K0:Nat=>all_in (R:=256) (C:=191) (K:=K0) (D:=gramL m l) gramL_ok (Nat.le_trans (gramL_sum hs) (by rw[hn];omega)));have HG:=Lib.hid (fun(k:Nat) (z:Int) (h:l[k]? =some z)=>gramL_get (n:=m) h);have HGL:=Lib.hid (gramL_len m l);have HGM:=Lib.hid (fun(z:Int) (k:Nat)=>made_ok z (m+k));have HLE:=Lib.hid (show l=[]↔n=0 from by rw[←hn];exact List.length_eq_zero_iff.symm);obtain⟨D,hD⟩: ∃D,gramL m l=D:=⟨_,rfl⟩;have HD:=Lib.hid hD;rw[hD]at HA HG HGL;have kf:=FrA.new_any 256 191 K w hF;simp only[hok,if_true]at kf;have HL:=Lib.hid hL;have HT:=Lib.hid hT;have m0:(0:Int)≤(m:Int):=Int.natCast_nonneg _;have m1:(m:Int)≤200:=by omega
 clear hT hF hn hL hok hQ hs hD
 go_enter Tryz.func34,Tryz.ntmps34
 go_wp2_with fail
 (with_reducible refine(kf).mono ?_);rintro e1 W1 ⟨hb1,hf1⟩
 obtain⟨R',C',K',gf,gr,eR,eC,eK,_,_,h8,h9,rfl,hF1⟩:=hf1.ok;obtain rfl:R'=256:=by omega
 obtain rfl:C'=191:=by omega
 subst eK;have HC:=Lib.hid h9;have HF0:=Lib.hid (show ∃v,FrIn W1 w.heap.size gf gr v (frD 256 191 K' (D.take 0))from⟨_,hF1⟩);clear kf hf1 eR eC hF1
 go_wp2_with fail
 go_loopw [11,12] (fun ov iv W=> ∃(k:Nat),k≤n∧iv= .int .i64 k∧Hid (W.ownsRow w.heap.size 9 1 ov k (flat enS (D.take k)))∧Hid (∃v,FrIn W w.heap.size gf gr v (frD 256 191 K' (D.take k)))∧Below w.heap.size w W) (fun _ iv _=>n-(intOf iv).toNat)
 case atStart=>exact⟨0,by omega,rfl,Lib.hid (by rw[List.take_zero];exact World.ownsRow_nil _ _ _ _),HF0,hb1⟩
 case round=>
  clear HF0 hb1;obtain⟨k,hk,rfl,HOV,HFT,hbV⟩:=hrel;have k0:(0:Int)≤(k:Int):=Int.natCast_nonneg _;by_cases hkn:k<n
  ·have t0:decide ((k:Int)<(n:Int))=true:=decide_eq_true (by omega)
   have t0':decide (k<n)=true:=decide_eq_true hkn;obtain⟨z,hz⟩: ∃z,l[k]? =some z:=⟨_,List.getElem?_eq_getElem (by rw[HN.out];exact hkn)⟩;obtain⟨b,o,rfl,hlt,hc⟩:=(HL.out.below (Nat.le_refl _) hbV) k z hz;have hd:=HG.out k z hz;have hE0:=(HA.out K' k (by rw[HGL.out,HN.out];omega)).2 _ hd;have HS:Hid (frD 256 191 K' (D.take (k+1))=addS (frD 256 191 K' (D.take k)) (madeD z (m+k))):=Lib.hid (by rw[List.take_add_one,hd];exact frD_snoc _ _ _ _ _);have HDS:Hid (flat enS (D.take (k+1))=flat enS (D.take k)++[.string (madeD z (m+k))]):=Lib.hid (by rw[List.take_add_one,hd,flat_app];rfl);have k1:(k:Int)<(n:Int):=by omega
   have k2:(k:Int)<6:=by omega
   have km: ∀V,Calls Tryz.prog 63 #[.int .i64 z,.int .u8 ((m:Int)+(k:Int))] V fun e w'=>e= .returned (.string (madeD z (m+k)))∧Below V.heap.size V w':=fun V=>by
    have:=made_any z (m+k) V (by omega);rw[show((m+k:Nat):Int)=(m:Int)+(k:Int) by omega]at this;exact this
   have HM:=Lib.hid (HGM.out z k);clear hz hlt hd
   go_wp2_with fail
   (with_reducible refine(km _).mono ?_);rintro e3 W3 ⟨rfl,hb3⟩
   obtain⟨v,hft⟩:=HFT.out;have HFT3:=Lib.hid (hft.below hb3);have HOV3:=Lib.hid (own_below HOV.out hb3);have hbV3:=hbV.trans (hb3.mono hbV.size);have ka:=FrB.add_any W3 w.heap.size gf gr v (frD 256 191 K' (D.take k)) (madeD z (m+k)) HFT3.out (frD_ok (by decide) (by decide) (by decide) _).ok (by rw[HM.out.2];unfold madeK;omega);rw[←HS.out,hE0,if_pos rfl]at ka;obtain⟨X,hX⟩: ∃X,madeD z (m+k)=X:=⟨_,rfl⟩;rw[hX]at ka HDS;rw[hX];clear km hft hb3 HFT hbV hE0 HOV HM HS hX
   go_wp2_with fail
   (with_reducible refine(ka).mono ?_);rintro e4 W4 ⟨v',rfl,hf4,hfar,hk4⟩
   have hbV4:=hbV3.trans (hk4.be hbV3.size (fun i hi=>(HFT3.out.ge i hi).1));have HFT4:=Lib.hid hf4;have hov4:=FrA.own_kept HOV3.out hk4 (fun i hi=>fr_off HFT3.out (tyb_own HOV3.out hi) (by decide) (by decide) (by decide));obtain⟨oa,oc,rfl⟩:=Ap.own_form hov4;have hz4:=hbV4.size;clear ka hf4 hfar hk4 HFT3 hbV3 HOV3
   go_wp2_with (at_builtin;refine ApG.wpList_appG rfl _ _ rfl elemS rfl (hov4.alloc (.cells #[.string X] 9)) rfl rfl (blk_news (Blk.new W4 9 #[.string X])) (by simp[Value.oneCell']) (by omega) (by unfold maxLen;omega) (by simp;omega) ?_)
   intro v9 w8 hown9 hg9 hl9;have HV5:=HFT4.out.below ((Below.refl W4.heap.size W4).alloc (Nat.le_refl _) (.cells #[.string X] 9));have hbV5:=hbV4.alloc hz4 (.cells #[.string X] 9);have hB6:=hbV5.trans (below_of_only hg9 hbV5.size (fun k hk=>(hov4.lt k hk).1));have HFT6:=Lib.hid (show ∃v,FrIn w8 w.heap.size gf gr v (frD 256 191 K' (D.take (k+1)))from⟨v',HV5.kept (kept_grown (F:=fun i=>(Value.slice oa k oc).ownBlock=Option.some i) hg9 (fun _ e=>e)) (fun i hi e=>fr_off HV5 (tyb_own (hov4.alloc (.cells #[.string X] 9)) e) (by decide) (by decide) (by decide) hi)⟩);have HO6:=Lib.hid (show w8.ownsRow w.heap.size 9 1 v9 (k+1) (flat enS (D.take (k+1)))from by rw[HDS.out];exact hown9);clear hov4 hbV4 hown9 hg9 hl9 HV5 hbV5 HFT4 HDS
   go_wp2_with fail
   go_roundw
   case rel=>exact⟨k+1,by omega,by go_num,HO6,HFT6,hB6⟩
   case measure=>simp[intOf];omega
  ·obtain rfl:n=k:=by omega
   have t0:decide ((n:Int)<(n:Int))=false:=decide_eq_false (by omega);have t0':decide (n<n)=false:=decide_eq_false (by omega);obtain⟨oa,oc,rfl⟩:=Ap.own_form HOV.out;by_cases hn0:n=0
   ·subst hn0
    have HE:=Lib.hid (show MdIn m K' l w (.returned (.tuple #[.slice none 0 0,.slice none 0 0,.bool true])) wr from⟨fun _=>rfl,fun e=>absurd (HLE.out.2 rfl) e,hbV⟩)
    go_wp2_with fail
    rw[HR.out];exact HE.out
   ·have t5:((n:Int)==0)=false:=by simpa using hn0
    obtain⟨v,hft⟩:=HFT.out;rw[List.take_of_length_le (by rw[HGL.out,HN.out];exact Nat.le_refl _)]at hft;have hall:=(HA.out K' D.length (Nat.le_refl _)).1;rw[List.take_of_length_le (Nat.le_refl _)]at hall;have hLL:(frD 256 191 K' D).L.length=n:=by rw[←List.length_map (f:=(·.2)),hall.t,HGL.out,HN.out]
    have hFS:=frs_D (C:=191) (K:=K') (by decide) HC.out D (by rw[HGL.out,HN.out];omega) (by omega);have kk:=mk_call wr w.heap.size gf gr v (frD 256 191 K' D) 5 (HT.out.be hbV) HT.out.lt hft hFS (by decide);have HZ:=Lib.hid (And.intro hall.t (And.intro hFS hft));have HOW:=Lib.hid (show wr.ownsRow w.heap.size 9 1 (.slice oa n oc) n (flat enS D)from by have:=HOV.out;rwa [List.take_of_length_le (by rw[HGL.out,HN.out];exact Nat.le_refl _)]at this);have HLN:=Lib.hid (show l≠[]from fun e=>hn0 (HLE.out.1 e));obtain⟨F,hF⟩: ∃F,frD 256 191 K' D=F:=⟨_,rfl⟩;rw[hF]at kk HZ;have HFD:=Lib.hid (show frD 256 191 K' (gramL m l)=F from by rw[HD.out];exact hF);obtain⟨S,hS⟩: ∃S,mkL F 5=S:=⟨_,rfl⟩;rw[hS]at kk;have HS:=Lib.hid hS;clear hall hLL hFS hft HFT HOV hF hS HA hn0
    go_wp2_with fail
    (with_reducible refine(kk).mono ?_);rintro e2 W2 ⟨mb,mo,mc,rfl,hsl,hf2,hk2,hmb,hcap⟩
    have hbW:=hbV.trans (hk2.be hbV.size (fun i hi=>(HZ.out.2.2.ge i hi).1))
    have HE:=Lib.hid (show MdIn m K' l w (.returned (.tuple #[.slice (some ⟨mb,mo,none⟩) S.length mc,.slice oa n oc,.bool true])) W2 from
     ⟨fun e=>absurd e HLN.out,fun _=>⟨K',mb,mo,mc,.slice oa n oc,rfl,HC.out,by rw[HFD.out,HS.out],by rw[HFD.out,HS.out];exact hsl,by rw[HFD.out,HS.out];exact hcap,by rw[HFD.out];exact HZ.out.2.1,by rw[HFD.out,HD.out];exact HZ.out.1,by rw[HD.out,HN.out];exact FrA.own_kept HOW.out hk2 (fun i hi=>fr_off HZ.out.2.2 (tyb_own HOW.out hi) (by decide) (by decide) (by decide)),hmb⟩,hbW⟩)
    clear kk hsl hf2 hk2 hmb hcap hbW
    go_wp2_with fail
    rw[HR.out];exact HE.out
end Go.Proofs.YtdbpkhnmhddmmaaGreatDoor.RcF
