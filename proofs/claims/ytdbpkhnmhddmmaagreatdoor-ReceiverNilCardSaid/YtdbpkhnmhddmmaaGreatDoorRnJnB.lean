import Derived.Test.YtdbpkhnmhddmmaaGreatDoorRnJnA
import Derived.Test.YtdbpkhnmhddmmaaGreatDoorRnPkW
namespace Go.Proofs.YtdbpkhnmhddmmaaGreatDoor.JnB
open Go Go.RowKit Q Mem Rg Ap St Scp BiH SeG CrB TbM JnP JnA
theorem need_pos {h:ByteArray} (hn:needE h=0):3≤h.size∧12≤needN h:=by
 unfold needE at hn
 split at hn
 ·cases hn
 ·split at hn
  ·cases hn
  ·rename_i h1 h2
   unfold needN needE;rw[if_neg h1,if_neg h2,if_pos rfl];unfold nBad at h2;omega
theorem tkJ_fuel: ∀(f f':Nat) (h:ByteArray) (b:Bool),h.size<f→h.size<f'→tkJ f h b=tkJ f' h b
 |f+1,f'+1,h,b,h1,h2=>by
  rw[tkJ,tkJ];by_cases e0:h.size=0
  ·rw[if_pos e0,if_pos e0]
  ·rw[if_neg e0,if_neg e0]
   by_cases e1:at0 h 0=255
   ·rw[if_pos e1,if_pos e1]
   ·rw[if_neg e1,if_neg e1]
    by_cases e2:h.size<3
    ·rw[if_pos e2,if_pos e2]
    ·rw[if_neg e2,if_neg e2]
     by_cases e3:needE h≠0
     ·rw[if_pos e3,if_pos e3]
     ·rw[if_neg e3,if_neg e3]
      by_cases e4:h.size<needN h
      ·rw[if_pos e4,if_pos e4]
      ·rw[if_neg e4,if_neg e4]
       have hp:=need_pos (Decidable.byContradiction e3);have hs:(h.extract (needN h) h.size).size<h.size:=by rw[ByteArray.size_extract];omega
       rw[tkJ_fuel f f' _ b (by omega) (by omega)]
theorem tk_step {h:ByteArray} {b:Bool} (e0:h.size≠0) (e1:at0 h 0≠255) (e2: ¬h.size<3) (e3:needE h=0) (e4: ¬h.size<needN h):
 tkJ (h.size+1) h b=(h.extract 0 (needN h)::(tkJ ((h.extract (needN h) h.size).size+1) (h.extract (needN h) h.size) b).1,(tkJ ((h.extract (needN h) h.size).size+1) (h.extract (needN h) h.size) b).2):=by
 have hp:=need_pos e3;have hs:(h.extract (needN h) h.size).size<h.size:=by rw[ByteArray.size_extract];omega
 rw[tkJ,if_neg e0,if_neg e1,if_neg e2,if_neg (by rw[e3];decide),if_neg e4,tkJ_fuel h.size ((h.extract (needN h) h.size).size+1) _ b hs (Nat.lt_succ_self _)]
theorem tk_end {h:ByteArray} {b:Bool}:(h.size=0→tkJ (h.size+1) h b=([],h,b,0))∧(h.size≠0→at0 h 0=255→tkJ (h.size+1) h b=([],nob,false,0))∧(h.size≠0→at0 h 0≠255→h.size<3→tkJ (h.size+1) h b=([],h,b,0))∧
 (h.size≠0→at0 h 0≠255→ ¬h.size<3→needE h≠0→tkJ (h.size+1) h b=([],nob,false,12))∧(h.size≠0→at0 h 0≠255→ ¬h.size<3→needE h=0→h.size<needN h→tkJ (h.size+1) h b=([],h,b,0)):=by
 refine⟨fun e=>by rw[tkJ,if_pos e],fun e0 e1=>by rw[tkJ,if_neg e0,if_pos e1],fun e0 e1 e2=>by rw[tkJ,if_neg e0,if_neg e1,if_pos e2],fun e0 e1 e2 e3=>by rw[tkJ,if_neg e0,if_neg e1,if_neg e2,if_pos e3],
  fun e0 e1 e2 e3 e4=>by rw[tkJ,if_neg e0,if_neg e1,if_neg e2,if_neg (by rw[e3];decide),if_pos e4]⟩
theorem elemLS:Elem Tryz.prog 26 9 1 16:=elem_of Tryz.underlying26 (z:= .string ByteArray.empty) (by kernel_rfl) rfl (by decide)
def tm (a:Act) (k:Nat):Value:=a.tmps.getD k undef
def frJ (g:Nat) (s out:Value) (u:Nat→Value):Act:={tmps:= #[.pointer (some ⟨g,0,none⟩),s,u 2,u 3,out,.int .i64 0,u 6,u 7,u 8,u 9,u 10,u 11,u 12,u 13,u 14,u 15,u 16,u 17,u 18,u 19,u 20,u 21,u 22,u 23,u 24,u 25,u 26,u 27,u 28,u 29,u 30,u 31,u 32,u 33,u 34,u 35,u 36,u 37,u 38,u 39,u 40,u 41,u 42,u 43,u 44,u 45,u 46,u 47,u 48,u 49,u 50,u 51,u 52,u 53,u 54,u 55,u 56,u 57,u 58,u 59,u 60,u 61,u 62,u 63,u 64,u 65,u 66,u 67,u 68,u 69,u 70,u 71,u 72,u 73,u 74,u 75,u 76,u 77,u 78,u 79,u 80],defers:=[]}
structure TkJ (w:World) (g:Nat) (j:Jn) (h:ByteArray) (e:Ending) (w':World):Prop where
 e: ∃v,e= .returned (.tuple #[v,.int .i64 (tkE h j.fol)])∧w'.ownsRow w.heap.size 9 1 v (tkO h j.fol).length (flat enS (tkO h j.fol))
 j:JnOk w w' g {j with hold:=tkH h j.fol,fol:=tkF h j.fol}
def J0 (w:World) (g:Nat) (j:Jn) (s:Value) (O:List ByteArray) (R:ByteArray×Bool×Int) (a:Act) (W:World):Prop:=
 ∃(u:Nat→Value) (out:Value) (h:ByteArray) (A:List ByteArray),a=frJ g s out u∧JnOk w W g {j with hold:=h}∧W.ownsRow w.heap.size 9 1 out A.length (flat enS A)∧A++(tkJ (h.size+1) h j.fol).1=O∧(tkJ (h.size+1) h j.fol).2=R∧h.size≤1099511627776∧A.length+h.size≤1000000
theorem j0_intro {w W:World} {g:Nat} {j:Jn} {s out:Value} {O:List ByteArray} {R:ByteArray×Bool×Int} {a:Act} {h:ByteArray} {A:List ByteArray} (h1:a=frJ g s out (tm a)) (h2:JnOk w W g {j with hold:=h}) (h3:W.ownsRow w.heap.size 9 1 out A.length (flat enS A))
 (h4:A++(tkJ (h.size+1) h j.fol).1=O) (h5:(tkJ (h.size+1) h j.fol).2=R) (h6:h.size≤1099511627776) (h7:A.length+h.size≤1000000):J0 w g j s O R a W:=⟨tm a,out,h,A,h1,h2,h3,h4,h5,h6,h7⟩
def mu (g:Nat) (W:World):Nat:=match W.cell? ⟨g,1,none⟩with|some (.string s)=>s.size|_=>0
theorem mu_eq {W:World} {g:Nat} {j:Jn} (h:JnIn W g j):mu g W=j.hold.size:=by
 unfold mu;rw[Blk.cell (show Blk W g 86 #[.int .i64 j.pid,.string j.hold,.bool j.fol,.int .i64 j.cnt,.string j.seen,.int .i64 (j.lost:Int)]from h) 1 (v:= .string j.hold) rfl]
theorem tkj_fin {w W:World} {g:Nat} {j:Jn} {X h x:ByteArray} {A:List ByteArray} {out:Value} {b:Bool} {e:Int} {O:List ByteArray} {R:ByteArray×Bool×Int} (hX:tkJ (X.size+1) X j.fol=(O,R)) (hO:A++(tkJ (h.size+1) h j.fol).1=O) (hR:(tkJ (h.size+1) h j.fol).2=R)
 (H:tkJ (h.size+1) h j.fol=([],x,b,e)) (hj:JnOk w W g {j with hold:=x,fol:=b}) (hown:W.ownsRow w.heap.size 9 1 out A.length (flat enS A)):TkJ w g j X (.returned (.tuple #[out,.int .i64 e])) W:=by
 rw[H]at hO hR;rw[List.append_nil]at hO;subst hO;have e1:tkO X j.fol=A:=by unfold tkO;rw[hX]
 have e2:tkH X j.fol=x:=by unfold tkH;rw[hX,←hR]
 have e3:tkF X j.fol=b:=by unfold tkF;rw[hX,←hR]
 have e4:tkE X j.fol=e:=by unfold tkE;rw[hX,←hR]
 exact⟨⟨out,by rw[e4],by rw[e1];exact hown⟩,by rw[e2,e3];exact hj⟩
set_option maxRecDepth 100000
set_option maxHeartbeats 3200000 in
theorem take_any (w:World) (g:Nat) (j:Jn) (s:ByteArray) (h:JnIn w g j) (hs:j.hold.size+s.size≤900000):
 Calls Tryz.prog 82 #[.pointer (some ⟨g,0,none⟩),.string s] w (TkJ w g j (j.hold++s)):=by
 obtain⟨R,hR⟩: ∃R,R=TkJ w g j (j.hold++s):=⟨_,rfl⟩;rw[←hR];have HR:=Lib.hid hR;have hb:Blk w g 86 #[.int .i64 j.pid,.string j.hold,.bool j.fol,.int .i64 j.cnt,.string j.seen,.int .i64 (j.lost:Int)]:=h;have c1:=Blk.cell hb 1 (v:= .string j.hold) rfl;have f1:=Blk.frozen hb 1;have hadd:=fun U=>add_at j.hold s (by omega) U;have hgw:=Blk.lt hb;have H1:=Lib.hid (show JnOk w (w.setCell ⟨g,1,none⟩ (.string (j.hold++s))) g {j with hold:=j.hold++s}from⟨Blk.set_ hb 1 (.string (j.hold++s)),kept_set rfl⟩);have hXs:(j.hold++s).size≤900000:=by rw[ByteArray.size_append];exact hs
 obtain⟨X,hX⟩: ∃X,j.hold++s=X:=⟨_,rfl⟩;rw[hX]at HR hadd H1 hXs;obtain⟨⟨O,RR⟩,hQ⟩: ∃Q,tkJ (X.size+1) X j.fol=Q:=⟨_,rfl⟩;have HX:=Lib.hid hQ;clear hR hb h hs hX hQ
 go_enter Tryz.func82,Tryz.ntmps82
 go_wp2_with fail
 refine wp_scope_one 0 (J0 w g j (.string s) O RR) (fun _ W=>mu g W) rfl ?_ ?_
 ·rintro a1 W ⟨u,out,h,A,rfl,hj,hown,hO,hRR,hh,hA⟩
  have HO:=Lib.hid hO;have HRR:=Lib.hid hRR;have HA:=Lib.hid hA;have HMU:=Lib.hid (mu_eq hj.j);have hjb:Blk W g 86 #[.int .i64 j.pid,.string h,.bool j.fol,.int .i64 j.cnt,.string j.seen,.int .i64 (j.lost:Int)]:=hj.j;have x1:=Blk.cell hjb 1 (v:= .string h) rfl;have HJ:=Lib.hid hj;obtain⟨k1,k2,k3,k4,k5⟩:=tk_end (h:=h) (b:=j.fol)
  have tb:(h.toList==[])=decide (h.size=0):=by
   by_cases e:h.size=0
   ·rw[decide_eq_true e]
    have:h=nob:=bl_inj (List.eq_nil_of_length_eq_zero (by rw[bl_len];exact e));rw[this,ByteArray.toList_eq];rfl
   ·rw[decide_eq_false e]
    refine beq_eq_false_iff_ne.2 (fun e2=>e ?_);have h9:h.data.toList.length=0:=by rw[←ByteArray.toList_eq,e2];rfl
    rw[Array.length_toList]at h9;exact h9
  unfold frJ;clear c1 f1 hadd hO hRR hA hj;by_cases e0:h.size=0
  ·rw[decide_eq_true e0]at tb
   have K:=k1 e0;clear k1 k2 k3 k4 k5 hjb e0
   go_wp2_with fail
   rw[HR.out];exact tkj_fin HX.out HO.out HRR.out K HJ.out hown
  ·rw[decide_eq_false e0]at tb
   have ix: ∀V:World,(Instr.index 9 (.string h) (.int .i64 0)).run Tryz.prog V= .ok (.int .u8 (at0 h 0:Int)) V:=fun V=>idx_at h 0 (by omega) V;by_cases e1:at0 h 0=255
   ·have t1:((at0 h 0:Int)==255)=true:=beq_iff_eq.2 (by omega)
    have K:=k2 e0 e1;have kl:=lose_any (w:=W) (g:=g) (j:={j with hold:=h}) HJ.out.j;rw[e1]at ix t1;clear k1 k2 k3 k4 k5 hjb e0 e1
    go_wp2_with fail
    (with_reducible refine(kl).mono ?_);rintro e9 W9 ⟨rfl,hj9⟩
    have hj2:=HJ.out.trans hj9;have ho9:=FrA.own_kept hown hj9.k (fun i hi e=>by subst e;have:=(hown.lt _ hi).1;omega);clear kl x1
    go_wp2_with fail
    rw[HR.out];exact tkj_fin HX.out HO.out HRR.out K hj2 ho9
   ·have t1:((at0 h 0:Int)==255)=false:=beq_eq_false_iff_ne.2 (by omega)
    obtain⟨c,hc⟩: ∃c,at0 h 0=c:=⟨_,rfl⟩;rw[hc]at ix t1;by_cases e2:h.size<3
    ·have t2:decide ((h.size:Int)<3)=true:=decide_eq_true (by omega)
     have t2':decide (h.size<3)=true:=decide_eq_true e2;have K:=k3 e0 e1 e2;clear k1 k2 k3 k4 k5 hjb e0 e1 e2 hc
     go_wp2_with fail
     rw[HR.out];exact tkj_fin HX.out HO.out HRR.out K HJ.out hown
    ·have t2:decide ((h.size:Int)<3)=false:=decide_eq_false (by omega)
     have t2':decide (h.size<3)=false:=decide_eq_false e2;have kn:=need_any h W hh;by_cases e3:needE h=0
     ·rw[e3]at kn
      have hnp:=need_pos e3;by_cases e4:h.size<needN h
      ·have t4:decide ((h.size:Int)<(needN h:Int))=true:=decide_eq_true (by omega)
       have t4':decide (h.size<needN h)=true:=decide_eq_true e4;have K:=k5 e0 e1 e2 e3 e4;clear k1 k2 k3 k4 k5 hjb e0 e1 e2 e3 e4 hc hnp
       go_wp2_with fail
       (with_reducible refine(kn).mono ?_);rintro e9 W9 ⟨rfl,hb9⟩
       have hj2:JnOk w W9 g {j with hold:=h}:=⟨HJ.out.j.below hb9,HJ.out.k.then (hb9.mono HJ.out.k.size)⟩;have ho9:=own_below hown hb9;have x1:=Blk.cell (show Blk W9 g 86 #[.int .i64 j.pid,.string h,.bool j.fol,.int .i64 j.cnt,.string j.seen,.int .i64 (j.lost:Int)]from hj2.j) 1 (v:= .string h) rfl;clear kn hb9
       go_wp2_with fail
       rw[HR.out];exact tkj_fin HX.out HO.out HRR.out K hj2 ho9
      ·have t4:decide ((h.size:Int)<(needN h:Int))=false:=decide_eq_false (by omega)
       have t4':decide (h.size<needN h)=false:=decide_eq_false e4;have HST:=Lib.hid (tk_step (b:=j.fol) e0 e1 e2 e3 e4);obtain⟨n,hn⟩: ∃n,needN h=n:=⟨_,rfl⟩;rw[hn]at kn t4 t4' HST hnp e4;have hsz:(h.extract n h.size).size=h.size-n:=by rw[ByteArray.size_extract];omega
       have HSZ:=Lib.hid (And.intro hsz (And.intro hnp.2 e4));have n0:(0:Int)≤(n:Int):=Int.natCast_nonneg _;have n1:(n:Int)≤(h.size:Int):=by omega
       have hs1: ∀V:World,(Instr.slice 9 (.string h) none (some (.int .i64 (n:Int))) none).run Tryz.prog V= .ok (.string (h.extract 0 n)) V:=fun V=>by
        rw[run_slice_string_h V 9 h Tryz.underlying9 .i64 (n:Int) (by omega) (by omega),Int.toNat_natCast]
       have hs2: ∀V:World,(Instr.slice 9 (.string h) (some (.int .i64 (n:Int))) none none).run Tryz.prog V= .ok (.string (h.extract n h.size)) V:=fun V=>by
        rw[run_slice_string_l V 9 h Tryz.underlying9 .i64 (n:Int) (by omega) (by omega),Int.toNat_natCast]
       clear k1 k2 k3 k4 k5 hjb e0 e1 e2 e3 e4 hc hn hnp hsz
       go_wp2_with fail
       (with_reducible refine(kn).mono ?_);rintro e9 W9 ⟨rfl,hb9⟩
       have hj2:JnOk w W9 g {j with hold:=h}:=⟨HJ.out.j.below hb9,HJ.out.k.then (hb9.mono HJ.out.k.size)⟩;have ho9:=own_below hown hb9;have x1:=Blk.cell (show Blk W9 g 86 #[.int .i64 j.pid,.string h,.bool j.fol,.int .i64 j.cnt,.string j.seen,.int .i64 (j.lost:Int)]from hj2.j) 1 (v:= .string h) rfl;obtain⟨h1,hh1⟩: ∃x,h.extract 0 n=x:=⟨_,rfl⟩;obtain⟨h2,hh2⟩: ∃x,h.extract n h.size=x:=⟨_,rfl⟩;rw[hh1,hh2]at HST;rw[hh1]at hs1;rw[hh2]at hs2 HSZ;have hA9:=HA.out;have HJ2:=Lib.hid hj2;have hoA:=own_below ho9 ((Below.refl W9.heap.size W9).alloc (Nat.le_refl _) (.cells #[.string h1] 9));have hnw:=Blk.new W9 9 #[.string h1];have hz9:w.heap.size≤(W9.alloc (.cells #[.string h1] 9)).heap.size:=by have:=hj2.k.size;simp;omega
       clear kn hb9 hj2 ho9 hown hh1 hh2
       go_wp2_with (at_builtin;refine ApG.wpList_appG rfl _ _ rfl elemLS rfl hoA rfl rfl (blk_news hnw) (by simp[Value.oneCell']) (by omega) (by unfold maxLen;omega) hz9 ?_)
       intro v9 W8 hown9 hg9 hat9;have hgo: ∀r,out.ownBlock=some r→w.heap.size≤r:=fun r e=>(hoA.lt r e).1;have hjA:Blk (W9.alloc (.cells #[.string h1] 9)) g 86 #[.int .i64 j.pid,.string h,.bool j.fol,.int .i64 j.cnt,.string j.seen,.int .i64 (j.lost:Int)]:=Blk.alloc HJ2.out.j _;have hj8:Blk W8 g 86 #[.int .i64 j.pid,.string h,.bool j.fol,.int .i64 j.cnt,.string j.seen,.int .i64 (j.lost:Int)]:=hjA.grown hg9 (fun e=>by have:=hgo g e.symm;omega);have HK8:JnOk w W8 g {j with hold:=h}:=⟨hj8,(HJ2.out.k.then ((Below.refl _ _).alloc HJ2.out.k.size _)).then (below_of_only hg9 hz9 (fun k e=>hgo k e))⟩;have hne9:v9.ownBlock≠some g:=fun e=>by have:=(hown9.lt g e).1;omega
       have HKA:=Lib.hid (HK8.trans (show JnOk W8 (W8.setCell ⟨g,1,none⟩ (.string h2)) g {j with hold:=h2}from⟨Blk.set_ hj8 1 (.string h2),kept_set rfl⟩))
       have HOA:=Lib.hid (show(W8.setCell ⟨g,1,none⟩ (.string h2)).ownsRow w.heap.size 9 1 v9 (A++[h1]).length (flat enS (A++[h1]))from by
        rw[flat_app,List.length_append];exact hown9.kept (only_set (only_refl W8 (some g)) 1 _) (Or.inr hne9))
       have y1:=Blk.cell hj8 1 (v:= .string h) rfl;have f1:=Blk.frozen hj8 1;clear hoA hnw hz9 hown9 hg9 hat9 hgo hjA hj8 HK8 hne9 x1 HJ2
       go_wp2_with fail
       go_step3
       obtain⟨z1,z2,z3⟩:=HSZ.out;have hAA:=HA.out;refine⟨rfl,j0_intro (h:=h2) (A:=A++[h1]) (by kernel_rfl) HKA.out HOA.out ?_ ?_ ?_ ?_,?_⟩
       ·have:=HO.out
        rw[HST.out]at this;rw[List.append_assoc];exact this
       ·have:=HRR.out
        rw[HST.out]at this;exact this
       ·omega
       ·rw[List.length_append,List.length_singleton]
        omega
       ·rw[HMU.out,mu_eq HKA.out.j]
        dsimp only;omega
     ·have t3:(needE h !=0)=true:=by simpa using e3
      have K:=k4 e0 e1 e2 e3;obtain⟨E,hE⟩: ∃E,needE h=E:=⟨_,rfl⟩;rw[hE]at kn t3;clear k1 k2 k3 k4 k5 hjb e0 e1 e2 e3 hc hE
      go_wp2_with fail
      (with_reducible refine(kn).mono ?_);rintro e9 W9 ⟨rfl,hb9⟩
      have hj2:JnOk w W9 g {j with hold:=h}:=⟨HJ.out.j.below hb9,HJ.out.k.then (hb9.mono HJ.out.k.size)⟩;have ho9:=own_below hown hb9;have kl:=lose_any (w:=W9) (g:=g) (j:={j with hold:=h}) hj2.j;clear kn hb9
      go_wp2_with fail
      (with_reducible refine(kl).mono ?_);rintro e8 W8 ⟨rfl,hj8⟩
      have hj3:=hj2.trans hj8;have ho8:=FrA.own_kept ho9 hj8.k (fun i hi e=>by subst e;have:=(ho9.lt _ hi).1;omega);clear kl x1
      go_wp2_with fail
      rw[HR.out];exact tkj_fin HX.out HO.out HRR.out K hj3 ho8
 ·intro b0
  go_wp2_with fail
  go_step3
  rename_i hK;refine hK _ _ ?_;exact b0 _ _ (j0_intro (A:=[]) (h:=X) (out:= .slice none 0 0) (by kernel_rfl) H1.out (World.ownsRow_nil _ _ _ _) (by rw[HX.out];rfl) (by rw[HX.out]) (by omega) (by simp;omega))
end Go.Proofs.YtdbpkhnmhddmmaaGreatDoor.JnB
