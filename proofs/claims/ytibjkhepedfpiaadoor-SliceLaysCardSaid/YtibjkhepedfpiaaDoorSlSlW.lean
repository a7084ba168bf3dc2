import Derived.Test.YtibjkhepedfpiaaDoorSlSlV
import Derived.Test.YtibjkhepedfpiaaDoorSlSlS
namespace Go.Proofs.YtibjkhepedfpiaaDoor.SlW
open Go Go.RowKit Q Mem Rg Ap ApG St CrB PaA PaK PaP SlM SlP SlR SlS SlV
set_option maxRecDepth 100000
theorem lright_any (p s:Int) (w:World):Calls Tryd.prog 18 #[.int .i64 p,.int .i64 s] w fun e w'=>e= .returned (.bool (decide (rightP p s)))∧w=w':=by
 have HR:=Lib.hid (show decide (rightP p s)=(decide (0≤p)&&(decide (p≤8190)&&(decide (0≤s)&&decide (s≤1048576))))from by
  unfold rightP;by_cases h1:0≤p<;>by_cases h2:p≤8190<;>by_cases h3:0≤s<;>by_cases h4:s≤1048576<;>simp[h1,h2,h3,h4])
 obtain⟨R,hR⟩: ∃R,decide (rightP p s)=R:=⟨_,rfl⟩;rw[hR]at HR ⊢;clear hR
 go_enter Tryd.func18,Tryd.ntmps18
 go_wp2_with fail
 all_goals
  go_ret;refine⟨?_,rfl⟩;rw[HR.out]
  simp_all
  try omega
set_option maxHeartbeats 1600000 in
theorem lmany_any (a:Option Addr) (n c:Nat) (S:List ByteArray) (w:World) (hn:S.length=n) (hl:n≤100000) (hS:Seq enS 1 w a S) (hz:(S.map ByteArray.size).sum≤1099511627776):
 Calls Tryd.prog 11 #[.slice a n c] w fun e w'=>e= .returned (.tuple #[.int .i64 (manyN S:Int),.int .i64 (manyE S)])∧Below w.heap.size w w':=by
 by_cases h0:n=0
 ·subst h0
  have HE:=Lib.hid (show manyE S=18∧manyN S=0 from by
   have:manyE S=18:=if_pos hn;exact⟨this,if_neg (by rw[this];decide)⟩)
  clear hS hz
  go_enter Tryd.func11,Tryd.ntmps11
  go_wp2_with fail
  go_ret2
  exact⟨by rw[HE.out.1,HE.out.2];rfl,Below.refl _ _⟩
 ·have t0:((n:Int)==0)=false:=by simp;omega
  have t1:(n==0)=false:=by simp;omega
  have HM:=Lib.hid (show manyE S=firstE S from if_neg (by omega));have HS:=Lib.hid hS;have HN:=Lib.hid hn;have HZ:=Lib.hid hz;clear hS hn hz h0
  go_enter Tryd.func11,Tryd.ntmps11
  go_wp2_with fail
  go_loopw [4] (fun i wr=> ∃q:Nat,q≤n∧i= .int .i64 q∧Hid (firstE (S.take q)=0)∧Below w.heap.size w wr) (fun i _=>n-(intOf i).toNat)
  case atStart=>exact⟨0,by omega,rfl,Lib.hid (by first|trivial|rfl),Below.refl _ _⟩
  case round=>
   obtain⟨q,hq,rfl,hf,hb⟩:=hrel;by_cases hqn:q<n
   ·have t2:decide (q<n)=true:=decide_eq_true hqn
    obtain⟨s,hs⟩: ∃s,S[q]? =some s:=⟨_,List.getElem?_eq_getElem (by rw[HN.out];exact hqn)⟩;obtain⟨b0,o0,rfl,hlt,hc⟩:=(HS.out.below (Nat.le_refl _) hb) q s hs;have c0:wr.cell? ⟨b0,o0+q,none⟩=some (.string s):=hc 0 _ rfl;have k0:(0:Int)≤(q:Int):=Int.natCast_nonneg _;have k1:(q:Int)<(n:Int):=by omega
    have kc:=fun V=>rcheck_any s V;have HFT:=Lib.hid (first_take hs hf.out);obtain⟨E,hE⟩: ∃E,paE s=E:=⟨_,rfl⟩;rw[hE]at kc HFT;have hbs:=hb.size;clear hc hs hE;by_cases hE0:E=0
    ·subst hE0
     go_wp2_with fail
     (with_reducible refine(kc _).mono ?_);rintro e1 W1 ⟨rfl,hb1⟩
     have hb2:=hb.trans (hb1.mono hbs)
     go_wp2_with fail
     go_roundw
     case rel=>exact⟨q+1,by omega,by go_num,Lib.hid (HFT.out.1 (by first|trivial|rfl)),hb2⟩
     case measure=>simp[intOf];omega
    ·have t3:(E==0)=false:=beq_eq_false_iff_ne.2 hE0
     have HX:=Lib.hid (show manyE S=E∧manyN S=0 from by
      have h1:manyE S=E:=by rw[HM.out];exact HFT.out.2 hE0
      exact⟨h1,if_neg (by rw[h1];exact hE0)⟩)
     clear hE0
     go_wp2_with fail
     (with_reducible refine(kc _).mono ?_);rintro e1 W1 ⟨rfl,hb1⟩
     have hb2:=hb.trans (hb1.mono hbs)
     go_wp2_with fail
     go_ret2
     exact⟨by rw[HX.out.1,HX.out.2];rfl,hb2⟩
   ·obtain rfl:q=n:=by omega
    have t2:decide (q<q)=false:=by simp
    have hf0:firstE S=0:=by have:=hf.out;rwa [List.take_of_length_le (by rw[HN.out];exact Nat.le_refl _)]at this
    have kb:=bodies_any a q c S wr HN.out hl (HS.out.below (Nat.le_refl _) hb) (size_pos (first_ok hf0)) HZ.out
    have HX:=Lib.hid (show manyE S=0∧manyN S=nP (S.map ByteArray.size)from by
     have h1:manyE S=0:=by rw[HM.out];exact hf0
     exact⟨h1,if_pos h1⟩)
    obtain⟨K,hK⟩: ∃K,nP (S.map ByteArray.size)=K:=⟨_,rfl⟩;rw[hK]at kb HX;have hbs:=hb.size;clear hf0 hK
    go_wp2_with fail
    (with_reducible refine(kb).mono ?_);rintro e1 W1 ⟨hb1,ao,co,rfl⟩
    have hb2:=hb.trans (hb1.mono hbs)
    go_wp2_with fail
    go_ret2
    exact⟨by rw[HX.out.1,HX.out.2];rfl,hb2⟩
set_option maxHeartbeats 1600000 in
theorem same_any (a1 a2:Option Addr) (n1 c1 n2 c2:Nat) (S1 S2:List ByteArray) (w:World) (h1:S1.length=n1) (h2:S2.length=n2) (hl:n1≤100000) (hS1:Seq enS 1 w a1 S1) (hS2:Seq enS 1 w a2 S2):
 Calls Tryd.prog 13 #[.slice a1 n1 c1,.slice a2 n2 c2] w fun e w'=>e= .returned (.bool (decide (S1=S2)))∧Below w.heap.size w w':=by
 by_cases hne:n1=n2
 ·subst hne
  have t0:(n1==n1)=true:=beq_self_eq_true n1;have t0':((n1:Int)==(n1:Int))=true:=beq_self_eq_true _;have HS:=Lib.hid (And.intro hS1 hS2);have HN:=Lib.hid (And.intro h1 h2);clear hS1 hS2 h1 h2
  go_enter Tryd.func13,Tryd.ntmps13
  go_wp2_with fail
  go_loopw [5] (fun i wr=> ∃q:Nat,q≤n1∧i= .int .i64 q∧Hid (S1.take q=S2.take q)∧Below w.heap.size w wr) (fun i _=>n1-(intOf i).toNat)
  case atStart=>exact⟨0,by omega,rfl,Lib.hid (by first|trivial|rfl),Below.refl _ _⟩
  case round=>
   obtain⟨q,hq,rfl,hf,hb⟩:=hrel;by_cases hqn:q<n1
   ·have t2:decide (q<n1)=true:=decide_eq_true hqn
    obtain⟨s,hs⟩: ∃s,S1[q]? =some s:=⟨_,List.getElem?_eq_getElem (by rw[HN.out.1];exact hqn)⟩;obtain⟨u,hu⟩: ∃s,S2[q]? =some s:=⟨_,List.getElem?_eq_getElem (by rw[HN.out.2];exact hqn)⟩;obtain⟨b0,o0,rfl,hlt,hc⟩:=(HS.out.1.below (Nat.le_refl _) hb) q s hs;obtain⟨b1,o1,rfl,hlt1,hc1⟩:=(HS.out.2.below (Nat.le_refl _) hb) q u hu;have c0:wr.cell? ⟨b0,o0+q,none⟩=some (.string s):=hc 0 _ rfl;have c1:wr.cell? ⟨b1,o1+q,none⟩=some (.string u):=hc1 0 _ rfl;have d0:=fun p=>cell_ext hlt c0 p;have d1:=fun p=>cell_ext hlt1 c1 p;have k0:(0:Int)≤(q:Int):=Int.natCast_nonneg _;have k1:(q:Int)<(n1:Int):=by omega
    have HSU:=Lib.hid (And.intro hs hu);clear hc hc1 hs hu c0 c1;by_cases he:s=u
    ·subst he
     have t3:(s.toList==s.toList)=true:=beq_self_eq_true _
     go_wp2_with fail
     refine Go.Proofs.YtibjkhepedfpiaaDoor.Q.region_ext (by kernel_rfl) (by kernel_rfl) ?_
     repeat (go_big_quiet_step (fail))
     refine wpQuiet_nil ?_;rintro w9 ⟨pq,rfl⟩;have hb2:=hb.trans ((below_ext wr pq).mono hb.size);have HX:=Lib.hid (show S1.take (q+1)=S2.take (q+1)from by rw[List.take_add_one,List.take_add_one,HSU.out.1,HSU.out.2,hf.out])
     go_wp2_with fail
     go_roundw
     case rel=>exact⟨q+1,by omega,by go_num,HX,hb2⟩
     case measure=>simp[intOf];omega
    ·have t3:(s.toList==u.toList)=false:=beq_eq_false_iff_ne.2 (fun h=>he (by apply ByteArray.ext;apply Array.toList_inj.1;rw[ByteArray.toList_eq,ByteArray.toList_eq]at h;exact h))
     have HX:=Lib.hid (show decide (S1=S2)=false from decide_eq_false (fun h=>he (by have h1:=HSU.out.1;rw[h,HSU.out.2]at h1;injection h1 with h1;exact h1.symm)))
     go_wp2_with fail
     refine Go.Proofs.YtibjkhepedfpiaaDoor.Q.region_ext (by kernel_rfl) (by kernel_rfl) ?_
     repeat (go_big_quiet_step (fail))
     refine wpQuiet_nil ?_;rintro w9 ⟨pq,rfl⟩;have hb2:=hb.trans ((below_ext wr pq).mono hb.size)
     go_wp2_with fail
     go_ret;exact⟨by rw[HX.out];rfl,hb2⟩
   ·obtain rfl:q=n1:=by omega
    have t2:decide (q<q)=false:=by simp
    have HX:=Lib.hid (show decide (S1=S2)=true from decide_eq_true (by
     have:=hf.out
     rwa [List.take_of_length_le (by rw[HN.out.1];exact Nat.le_refl _),List.take_of_length_le (by rw[HN.out.2];exact Nat.le_refl _)]at this))
    go_wp2_with fail
    go_ret;exact⟨by rw[HX.out];rfl,hb⟩
 ·have t0:(n1==n2)=false:=beq_eq_false_iff_ne.2 hne
  have t0':((n1:Int)==(n2:Int))=false:=beq_eq_false_iff_ne.2 (by omega);have HX:=Lib.hid (show decide (S1=S2)=false from decide_eq_false (fun h=>hne (by rw[←h1,←h2,h])));clear hS1 hS2 h1 h2 hne
  go_enter Tryd.func13,Tryd.ntmps13
  go_wp2_with fail
  go_ret;exact⟨by rw[HX.out];rfl,Below.refl _ _⟩
noncomputable def checkE:Int→List Br→Int
 |_,[]=>0
 |e,b::t=>if ¬rightP b.pid b.at_ then 15 else if manyE b.S≠0 then manyE b.S else if b.at_<e then 22 else checkE (b.at_+manyN b.S) t
set_option maxHeartbeats 3200000 in
theorem check_any (a:Option Addr) (n c:Nat) (L:List Bu) (w:World) (hn:L.length=n) (hl:n≤100000) (hL:Seq enBu 3 w a L) (hok: ∀x∈L,BuOk w x) (hsm: ∀x∈L,Small x.b):
 Calls Tryd.prog 19 #[.slice a n c] w fun e w'=>e= .returned (.int .i64 (checkE 0 (L.map Bu.b)))∧Below w.heap.size w w':=by
 have HL:=Lib.hid hL;have HN:=Lib.hid hn;have HO:=Lib.hid hok;have HSm:=Lib.hid hsm;clear hL hn hok hsm
 go_enter Tryd.func19,Tryd.ntmps19
 go_wp2_with fail
 go_loopw [3,10] (fun en i wr=> ∃(q:Nat) (e:Int),q≤n∧i= .int .i64 q∧en= .int .i64 e∧Hid (0≤e∧e≤1080000∧checkE e ((L.map Bu.b).drop q)=checkE 0 (L.map Bu.b))∧Below w.heap.size w wr) (fun _ i _=>n-(intOf i).toNat)
 case atStart=>exact⟨0,0,by omega,rfl,rfl,Lib.hid ⟨by decide,by decide,rfl⟩,Below.refl _ _⟩
 case round=>
  obtain⟨q,e,hq,rfl,rfl,HE,hb⟩:=hrel;by_cases hqn:q<n
  ·have t1:decide (q<n)=true:=decide_eq_true hqn
   obtain⟨x,hx⟩: ∃x,L[q]? =some x:=⟨_,List.getElem?_eq_getElem (by rw[HN.out];exact hqn)⟩;obtain⟨b0,o0,rfl,hlt,hc⟩:=(HL.out.below (Nat.le_refl _) hb) q x hx;have k0:(0:Int)≤(q:Int):=Int.natCast_nonneg _;have k1:(q:Int)<(n:Int):=by omega
   have c0:=hc 0 _ rfl;have c1:=hc 1 _ rfl;have c2:=hc 2 _ rfl;rw[off_eq]at c0 c1 c2;rw[Nat.add_zero]at c0;obtain⟨hsq,hcap⟩:=HO.out x (List.mem_of_getElem? hx);obtain⟨h8,h5⟩:=HSm.out x (List.mem_of_getElem? hx)
   have hdr:(L.map Bu.b).drop q=x.b::(L.map Bu.b).drop (q+1):=by
    rw[List.drop_eq_getElem_cons (by rw[List.length_map,HN.out];exact hqn)]
    congr 1
    rw[List.getElem_map];have:=List.getElem?_eq_some_iff.1 hx;rw[this.2]
   have HDR:=Lib.hid hdr;obtain⟨⟨pid,at_,S⟩,sa,sc⟩:=x;dsimp only at c0 c1 c2 hsq hcap h8 h5;have hbk:=Blk.new wr 35 #[.int .i64 pid,.int .i64 at_,.slice sa S.length sc];obtain⟨ns,hns⟩: ∃ns,S.length=ns:=⟨_,rfl⟩;rw[hns]at hbk c2 hcap h8;clear hc hx hdr;have k1:=right_any pid at_ (wr.alloc (.cells #[.int .i64 pid,.int .i64 at_,.slice sa ns sc] 35));have hb1:=hb.alloc hb.size (.cells #[.int .i64 pid,.int .i64 at_,.slice sa ns sc] 35);have hE1:checkE 0 (L.map Bu.b)=checkE e (⟨pid,at_,S⟩::(L.map Bu.b).drop (q+1)):=by rw[←HDR.out,HE.out.2.2]
   rw[checkE]at hE1;by_cases hr:rightP pid at_
   ·rw[decide_eq_true hr]at k1
    rw[if_neg (by simpa using hr)]at hE1;have hsq1:=(hsq.below (Nat.le_refl _) hb).below (Nat.le_refl _) ((Below.refl wr.heap.size wr).alloc (Nat.le_refl _) (.cells #[.int .i64 pid,.int .i64 at_,.slice sa ns sc] 35));have km:=many_any sa ns sc S _ hns (by omega) hcap hsq1 (fun s hs=>by have:=h5 s hs;omega);have hNB:=manyN_le h5;rw[hns]at hNB;obtain⟨F,hF⟩: ∃F,manyE S=F:=⟨_,rfl⟩;obtain⟨N,hNN⟩: ∃N,manyN S=N:=⟨_,rfl⟩;rw[hF,hNN]at km hE1;rw[hNN]at hNB;have hN3:N≤30000:=by omega
    have hr0:=hr.2.2.1;have hr9:=hr.2.2.2;clear hr hF hNN hNB;by_cases hF0:F=0
    ·subst hF0
     rw[if_neg (by decide)]at hE1;by_cases hmo:at_<e
     ·have t3:decide (at_<e)=true:=decide_eq_true hmo
      rw[if_pos hmo]at hE1;have HE1:=Lib.hid hE1;clear hE1 hmo
      go_wp2_with fail
      (with_reducible refine(k1).mono ?_);rintro e1 W1 ⟨rfl,rfl⟩
      go_wp2_with fail
      (with_reducible refine(km).mono ?_);rintro e1 W2 ⟨rfl,hb2⟩
      have hb3:=hb1.trans (hb2.mono hb1.size);have hbk2:=Blk.below hbk hb2 (Blk.lt hbk);have d0:=Blk.cell (hbk2) 0 (v:= .int .i64 pid) rfl;have d1:=Blk.cell (hbk2) 1 (v:= .int .i64 at_) rfl;have d2:=Blk.cell (hbk2) 2 (v:= .slice sa ns sc) rfl
      go_wp2_with fail
      go_ret;exact⟨by rw[HE1.out];rfl,hb3⟩
     ·have t3:decide (at_<e)=false:=decide_eq_false hmo
      rw[if_neg hmo]at hE1;have HE1:=Lib.hid (show checkE (at_+N) ((L.map Bu.b).drop (q+1))=checkE 0 (L.map Bu.b)from hE1.symm);have hN0:(0:Int)≤(N:Int):=Int.natCast_nonneg _;have hN9:(N:Int)≤30000:=by omega
      clear hE1 hmo
      go_wp2_with fail
      (with_reducible refine(k1).mono ?_);rintro e1 W1 ⟨rfl,rfl⟩
      go_wp2_with fail
      (with_reducible refine(km).mono ?_);rintro e1 W2 ⟨rfl,hb2⟩
      have hb3:=hb1.trans (hb2.mono hb1.size);have hbk2:=Blk.below hbk hb2 (Blk.lt hbk);have d0:=Blk.cell (hbk2) 0 (v:= .int .i64 pid) rfl;have d1:=Blk.cell (hbk2) 1 (v:= .int .i64 at_) rfl;have d2:=Blk.cell (hbk2) 2 (v:= .slice sa ns sc) rfl
      go_wp2_with fail
      go_roundw
      case rel=>exact⟨q+1,at_+N,by omega,by go_num,rfl,Lib.hid ⟨by omega,by omega,HE1.out⟩,hb3⟩
      case measure=>simp[intOf];omega
    ·have t2:(F==0)=false:=beq_eq_false_iff_ne.2 hF0
     rw[if_pos hF0]at hE1;have HE1:=Lib.hid hE1;clear hE1 hF0
     go_wp2_with fail
     (with_reducible refine(k1).mono ?_);rintro e1 W1 ⟨rfl,rfl⟩
     go_wp2_with fail
     (with_reducible refine(km).mono ?_);rintro e1 W2 ⟨rfl,hb2⟩
     have hb3:=hb1.trans (hb2.mono hb1.size);have hbk2:=Blk.below hbk hb2 (Blk.lt hbk);have d0:=Blk.cell (hbk2) 0 (v:= .int .i64 pid) rfl;have d1:=Blk.cell (hbk2) 1 (v:= .int .i64 at_) rfl;have d2:=Blk.cell (hbk2) 2 (v:= .slice sa ns sc) rfl
     go_wp2_with fail
     go_ret;exact⟨by rw[HE1.out];rfl,hb3⟩
   ·rw[decide_eq_false hr]at k1
    rw[if_pos hr]at hE1;have HE1:=Lib.hid hE1;clear hr hE1
    go_wp2_with fail
    (with_reducible refine(k1).mono ?_);rintro e1 W1 ⟨rfl,rfl⟩
    have hb3:=hb1
    go_wp2_with fail
    go_ret;exact⟨by rw[HE1.out];rfl,hb3⟩
  ·obtain rfl:q=n:=by omega
   have t1:decide (q<q)=false:=by simp
   have HX:=Lib.hid (show checkE 0 (L.map Bu.b)=0 from by
    rw[←HE.out.2.2,List.drop_of_length_le (by rw[List.length_map,HN.out];exact Nat.le_refl _)];rfl)
   go_wp2_with fail
   go_ret;exact⟨by rw[HX.out];rfl,hb⟩
end Go.Proofs.YtibjkhepedfpiaaDoor.SlW
