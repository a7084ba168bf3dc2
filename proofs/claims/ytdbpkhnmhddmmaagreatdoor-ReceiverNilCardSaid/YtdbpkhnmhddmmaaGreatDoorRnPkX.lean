import Derived.Test.YtdbpkhnmhddmmaaGreatDoorRnPkU
import Derived.Deep.RegionHeld3
import Derived.Test.YtdbpkhnmhddmmaaGreatDoorRnPkH
namespace Go.Proofs.YtdbpkhnmhddmmaaGreatDoor.BuI
open Go Go.RowKit Q Mem Rg Ap St Tab TbM TbO BuG
set_option maxRecDepth 100000
structure GaIn (w:World) (B g gt gr:Nat) (v:Value) (S:Tb) (mac:Int) (n:Nat):Prop where
 box:Blk w g 91 #[.pointer (some ⟨gt,0,none⟩),.int .i64 (S.R:Int),.int .i64 mac,.int .i64 (n:Int)]
 t:TbIn w B gt gr v S
 gb:B≤g
theorem bnew_yes (rows mac:Int) (w:World) (hT:Tab 1 w) (h:isSz rows=true):Calls Tryz.prog 11 #[.int .i64 rows,.int .i64 mac] w fun e w'=>Below w.heap.size w w'∧ ∃(R g gt gr:Nat),rows=(R:Int)∧R≤1024∧0<R∧e= .returned (.tuple #[.pointer (some ⟨g,0,none⟩),.int .i64 0])∧GaIn w' w.heap.size g gt gr (.slice none 0 0) (emptyT R) mac 0:=by
 have kt:=TbO.new_any rows w hT;rw[h]at kt;have kt2:=kt.mono (fun e w' h=>(show Below w.heap.size w w'∧ ∃(R gt gr:Nat),rows=(R:Int)∧R≤1024∧0<R∧e= .returned (.tuple #[.pointer (some ⟨gt,0,none⟩),.int .i64 0])∧TbIn w' w.heap.size gt gr (.slice none 0 0) (emptyT R)from⟨h.1,by have:=h.2;rw[if_pos rfl]at this;exact this⟩));clear kt h hT;obtain⟨Q,hQ⟩: ∃Q:Ending→World→Prop,Q=(fun e w'=>Below w.heap.size w w'∧ ∃(R g gt gr:Nat),rows=(R:Int)∧R≤1024∧0<R∧e= .returned (.tuple #[.pointer (some ⟨g,0,none⟩),.int .i64 0])∧GaIn w' w.heap.size g gt gr (.slice none 0 0) (emptyT R) mac 0):=⟨_,rfl⟩;rw[←hQ];have HQ:=Lib.hid hQ;clear hQ
 go_enter Tryz.func11,Tryz.ntmps11
 go_wp2_with fail
 (with_reducible refine(kt2).mono ?_);rintro e1 W1 ⟨hb1,R,gt,gr,rfl,hR1,hR2,rfl,ht⟩
 have HF:=Lib.hid (show Below w.heap.size w (W1.alloc (.cells #[.pointer (some ⟨gt,0,none⟩),.int .i64 (R:Int),.int .i64 mac,.int .i64 0] 91))∧GaIn (W1.alloc (.cells #[.pointer (some ⟨gt,0,none⟩),.int .i64 (R:Int),.int .i64 mac,.int .i64 0] 91)) w.heap.size W1.heap.size gt gr (.slice none 0 0) (emptyT R) mac 0 from
  ⟨hb1.alloc hb1.size _,⟨Blk.new _ _ _,ht.below ((Below.refl _ _).alloc (Nat.le_refl _) _),hb1.size⟩⟩)
 clear kt2 hb1 ht
 go_wp2_with fail
 rw[HQ.out];exact⟨HF.out.1,R,W1.heap.size,gt,gr,rfl,hR1,hR2,rfl,HF.out.2⟩
end Go.Proofs.YtdbpkhnmhddmmaaGreatDoor.BuI
namespace Go.Proofs.YtdbpkhnmhddmmaaGreatDoor.BuJ
open Go Go.RowKit Q Mem Rg Ap St CrB Ints Tab TbM FrA FrB LaA LaH BuG
set_option maxRecDepth 100000
end Go.Proofs.YtdbpkhnmhddmmaaGreatDoor.BuJ
namespace Go.Proofs.YtdbpkhnmhddmmaaGreatDoor.BuK
open Go Go.RowKit Q Mem Rg Ap St CrB Ints SeA SeC MpS FcS TmA DgC MpA FcA FrA FrB BuC BuD BuE
set_option maxRecDepth 100000
end Go.Proofs.YtdbpkhnmhddmmaaGreatDoor.BuK
namespace Go.Proofs.YtdbpkhnmhddmmaaGreatDoor.BuL
open Go Go.RowKit Q Mem Rg Ap St CrB Ints Tab DgC TbM FrA FrB FrC LaA LaH FcA BuC BuD BuE
set_option maxRecDepth 100000
theorem chain_zero {L:List (Nat×ByteArray)} {b:Nat} (h:Chain 0 L b):(L.length=0→b=0)∧(L.length≠0→b≠0):=by
 cases L with
 |nil=>exact⟨fun _=>Eq.symm h,fun h2=>absurd rfl h2⟩
 |cons x t=>
  obtain⟨p,d⟩:=x;obtain⟨h1,h2,h3⟩:=h;have h4:=chain_le h3;have h5:=dg_size h2;exact⟨fun h=>by simp at h,fun _=>by omega⟩
structure MkS (S:Fr):Prop where
 ok:OkF S
 K:S.K≤64
 R:S.R=256
 good:GoodL S.L
 n:S.L.length≤20
 zero:S.L.length=0→S.used=0
 pos:S.L.length≠0→S.used≠0
 col:ColOk (padN S:Nat) (parL S (64-S.K))
end Go.Proofs.YtdbpkhnmhddmmaaGreatDoor.BuL
namespace Go.Proofs.YtdbpkhnmhddmmaaGreatDoor.BuN
open Go Go.RowKit Q Mem Rg Ap St Tab TmA TbM TbO TbP TbR FcA FcC BuI
set_option maxRecDepth 100000
theorem Blk.fm_ne {w:World} {g gr N:Nat} {t e:TypeId} {cs:Array Value} {f:Nat→Value} (h:Blk w g t cs) (hf:Fm w gr e N f) (hne:t≠e):gr≠g:=by
 rintro rfl;obtain⟨A,hA,_⟩:=hf;unfold Blk at h;rw[hA]at h;injection h with h
 injection h with _ h2
 exact hne h2.symm
structure GaA (w:World) (B g gt gr:Nat) (v:Value) (S:Tb) (mac:Int) (n:Nat):Prop extends GaIn w B g gt gr v S mac n where
 ap: ¬foot gt gr v g
def footG (g gt gr:Nat) (v:Value) (i:Nat):Prop:=i=g∨foot gt gr v i
section
variable {w w':World} {B g gt gr:Nat} {v v':Value} {S S':Tb} {mac:Int} {n:Nat}
theorem GaA.below (h:GaA w B g gt gr v S mac n) (k:Below w.heap.size w w'):GaA w' B g gt gr v S mac n:=⟨⟨Blk.below h.box k (Blk.lt h.box),h.t.below k,h.gb⟩,h.ap⟩
theorem GaA.ge (h:GaA w B g gt gr v S mac n): ∀i,footG g gt gr v i→B≤i∧i<w.heap.size:=fun i hi=>hi.elim (fun e=>by subst e;exact⟨h.gb,Blk.lt h.box⟩) (TbIn.ge h.t i)
theorem GaA.table (h:GaA w B g gt gr v S mac n) (ht:TbIn w' B gt gr v' S') (hR:S'.R=S.R) (hf:far w v v') (k:Kept (foot gt gr v) w w'):GaA w' B g gt gr v' S' mac n:=by
 refine⟨⟨(k.block g (Blk.lt h.box) h.ap).trans (by rw[hR];exact h.box),ht,h.gb⟩,?_⟩;rintro(e|e|e)
 ·exact h.ap (Or.inl e)
 ·exact h.ap (Or.inr (Or.inl e))
 ·rcases hf with h1|⟨j,h1,h2⟩
  ·exact h.ap (Or.inr (Or.inr (h1▸e)))
  ·rw[h1]at e
   injection e with e
   have:=Blk.lt h.box;omega
end
def colE (R:Nat) (t:ByteArray):Int:=if fdE t≠0 then fdE t else parE R (fdP t).number (fdP t).text
def colT (S:Tb) (t:ByteArray):Tb:=if colE S.R t≠0 then S else padS (parS S (fdP t).number (fdP t).text) (fdP t).pad
def colF (R:Nat) (t:ByteArray):Bool:=if colE R t≠0 then false else(fdP t).times.frame
structure ColIn (w:World) (B g gt gr:Nat) (v:Value) (S:Tb) (mac:Int) (n:Nat) (t:ByteArray) (e:Ending) (w':World):Prop where
 e:e= .returned (.tuple #[.bool (colF S.R t),.int .i64 (colE S.R t)])
 ga:GaA w' B g gt gr v (colT S t) mac n
 k:Kept (foot gt gr v) w w'
set_option maxHeartbeats 3200000 in
theorem column_any (w:World) (B g gt gr:Nat) (v:Value) (S:Tb) (mac:Int) (n:Nat) (t:ByteArray) (hT:Tab 4 w) (h:GaA w B g gt gr v S mac n) (hok:Ok S) (hs:t.size≤1099511627776):
 Calls Tryz.prog 158 #[.pointer (some ⟨g,0,none⟩),.string t] w fun e w'=>ColIn w B g gt gr v S mac n t e w':=by
 obtain⟨Q,hQ⟩: ∃Q:Ending→World→Prop,Q=(fun e w'=>ColIn w B g gt gr v S mac n t e w'):=⟨_,rfl⟩;rw[←hQ];have HQ:=Lib.hid hQ;have HH:=Lib.hid h;have HO:=Lib.hid hok;have kd:=fdec_any t w hT hs;clear hQ h hok hT;by_cases hE:fdE t=0
 ·have HCE:=Lib.hid (show colE S.R t=parE S.R (fdP t).number (fdP t).text from by unfold colE;rw[if_neg (by rw[hE];simp)])
  rw[hE]at kd;have HE:=Lib.hid (show colE S.R t≠0→(colF S.R t=false∧colT S t=S)from fun h=>⟨by unfold colF;rw[if_pos h],by unfold colT;rw[if_pos h]⟩);have HE0:=Lib.hid (show colE S.R t=0→(colF S.R t=(fdP t).times.frame∧colT S t=padS (parS S (fdP t).number (fdP t).text) (fdP t).pad)from fun h=>⟨by unfold colF;rw[if_neg (by rw[h];simp)],by unfold colT;rw[if_neg (by rw[h];simp)]⟩);obtain⟨p,hp⟩: ∃p,fdP t=p:=⟨_,rfl⟩;rw[hp]at kd HCE HE0;clear hE hp;obtain⟨pd,nu,la,⟨de,ta,fr,at_⟩,tx⟩:=p;unfold Fp.vals at kd;dsimp only at kd HCE HE0
  have hz:parE S.R nu tx=0∨((parE S.R nu tx==0)=false∧parE S.R nu tx≠0):=by
   by_cases h:parE S.R nu tx=0
   ·exact Or.inl h
   ·exact Or.inr ⟨beq_eq_false_iff_ne.2 h,h⟩
  go_enter Tryz.func158,Tryz.ntmps158
  go_wp2_with fail
  (with_reducible refine(kd).mono ?_);rintro e1 W1 ⟨rfl,hb1⟩
  have hV:=HH.out.below hb1;have hge:=GaA.ge hV;have HK0:=Lib.hid hb1;have hn:=Blk.new W1 263 #[.int .i64 pd,.int .i64 nu,.int .i64 la,.int .i64 de,.bool ta,.bool fr,.int .i64 at_,.string tx];have hbe:=(Below.refl W1.heap.size W1).alloc (Nat.le_refl _) (.cells #[.int .i64 pd,.int .i64 nu,.int .i64 la,.int .i64 de,.bool ta,.bool fr,.int .i64 at_,.string tx] 263);have hV2:=hV.below hbe;clear kd hb1
  go_wp2_with fail
  refine wp_gen (fun W=>Blk W W1.heap.size 263 #[.int .i64 pd,.int .i64 nu,.int .i64 la,.int .i64 de,.bool ta,.bool fr,.int .i64 at_,.string tx]∧GaA W B g gt gr v S mac n∧Below W1.heap.size W1 W) ⟨hn,hV2,hbe⟩ ?_;rintro V ⟨hP,hG,hBV⟩;clear hn hV2 hbe hV;obtain⟨b,hb⟩: ∃b,W1.heap.size=b:=⟨_,rfl⟩;rw[hb]at hP hge;rw[hb];rw[hb]at hBV;have x0:=Blk.cell (hP) 0 (v:= .int .i64 pd) rfl;have x1:=Blk.cell (hP) 1 (v:= .int .i64 nu) rfl;have x2:=Blk.cell (hP) 2 (v:= .int .i64 la) rfl;have x3:=Blk.cell (hP) 3 (v:= .int .i64 de) rfl;have x4:=Blk.cell (hP) 4 (v:= .bool ta) rfl;have x5:=Blk.cell (hP) 5 (v:= .bool fr) rfl;have x6:=Blk.cell (hP) 6 (v:= .int .i64 at_) rfl;have x7:=Blk.cell (hP) 7 (v:= .string tx) rfl;have g0:=Blk.cell hG.box 0 (v:= .pointer (some ⟨gt,0,none⟩)) rfl;have hGd:=hG.below (below_drewN (Below.refl V.heap.size V) 1);have kp:=TbR.parity_any V.drew B gt gr v S nu tx hGd.t HO.out;have hgv:=Blk.lt hG.box;have hbv:=Blk.lt hP;have hfb: ¬foot gt gr v b:=fun h=>by have:=(hge b (Or.inr h)).2;omega
  have hap:=hG.ap
  go_region_held3 (fun w'=>w'.cell? ⟨g,0,none⟩=some (.pointer (some ⟨gt,0,none⟩))∧w'.cell? ⟨b,1,none⟩=some (.int .i64 nu)∧w'.cell? ⟨b,7,none⟩=some (.string tx))
   (first
    |exact⟨g0,x1,x7⟩
    |exact⟨(hk9.cell (p:=⟨g,0,none⟩) hgv hap).trans g0,(hk9.cell (p:=⟨b,1,none⟩) hbv hfb).trans x1,(hk9.cell (p:=⟨b,7,none⟩) hbv hfb).trans x7⟩)
   ((go_at_call 183;refine kp.mono ?_;rintro e w9 ⟨rfl,ht9,hk9⟩))
  have hpR:(TbR.parS S nu tx).R=S.R:=by unfold TbR.parS;split<;>rfl
  have hG9:=hGd.table ht9 hpR (Or.inl rfl) hk9;have hK9:Kept (foot gt gr v) w w9:=Kept.pre (HK0.out.trans ((show Below b W1 V.drew from below_drewN hBV 1).mono (by have:=HK0.out.size;omega))) hk9;have y0:=(hk9.cell (p:=⟨b,0,none⟩) hbv hfb).trans x0;have y5:=(hk9.cell (p:=⟨b,5,none⟩) hbv hfb).trans x5;have hbv9:b<w9.heap.size:=Nat.lt_of_lt_of_le hbv hk9.size;clear hk9 ht9 hGd hG g0 x0 x1 x2 x3 x4 x5 x6 x7 kp hP hBV hgv hge;rcases hz with h0|⟨h1,h2⟩
  ·rw[h0]
   have HCF:=Lib.hid (HE0.out (HCE.out.trans h0));have HC0:=Lib.hid (HCE.out.trans h0);clear HE HE0 HCE h0;have g0:=Blk.cell hG9.box 0 (v:= .pointer (some ⟨gt,0,none⟩)) rfl;have hGd:=hG9.below (below_drewN (Below.refl w9.heap.size w9) 1);have kp:=TbR.pad_any w9.drew B gt gr v (TbR.parS S nu tx) pd hGd.t (LaB.par_ok HO.out nu tx).1;have hgv:=Blk.lt hG9.box
   go_wp2_with fail
   go_region_held3 (fun w'=>w'.cell? ⟨g,0,none⟩=some (.pointer (some ⟨gt,0,none⟩))∧w'.cell? ⟨b,0,none⟩=some (.int .i64 pd))
    (first
     |exact⟨g0,y0⟩
     |exact⟨(hk8.cell (p:=⟨g,0,none⟩) hgv hap).trans g0,(hk8.cell (p:=⟨b,0,none⟩) hbv9 hfb).trans y0⟩)
    ((go_at_call 181;refine kp.mono ?_;rintro e w8 ⟨rfl,ht8,hk8⟩))
   have hqR:(padS (TbR.parS S nu tx) pd).R=(TbR.parS S nu tx).R:=by unfold padS;split<;>rfl
   have hG8:=hGd.table ht8 hqR (Or.inl rfl) hk8;have z5:=(hk8.cell (p:=⟨b,5,none⟩) hbv9 hfb).trans y5;have HF:=Lib.hid (show ColIn w B g gt gr v S mac n t (.returned (.tuple #[.bool fr,.int .i64 0])) w8 from⟨by rw[HCF.out.1,HC0.out],by rw[HCF.out.2];exact hG8,hK9.trans (Kept.pre (below_drewN (Below.refl w9.heap.size w9) 1) hk8) (fun _ _ h=>h)⟩);clear hG8 hG9 hK9 hk8 ht8 y0 y5 g0
   go_wp2_with fail
   rw[HQ.out];exact HF.out
  ·have HCF:=Lib.hid (HE.out (by rw[HCE.out];exact h2))
   have hps:TbR.parS S nu tx=S:=by unfold TbR.parS;rw[if_pos h2]
   rw[hps]at hG9;have HF:=Lib.hid (show ColIn w B g gt gr v S mac n t (.returned (.tuple #[.bool false,.int .i64 (parE S.R nu tx)])) w9 from⟨by rw[HCF.out.1,HCE.out],by rw[HCF.out.2];exact hG9,hK9⟩);clear HE HE0 HCE HCF hG9 hK9
   go_wp2_with fail
   rw[HQ.out];exact HF.out
 ·have hc:colE S.R t=fdE t:=by unfold colE;rw[if_pos hE]
  have HE:=Lib.hid (show ColIn w B g gt gr v S mac n t (.returned (.tuple #[.bool false,.int .i64 (fdE t)])) w from by
   refine⟨by rw[hc];unfold colF;rw[if_pos (by rw[hc];exact hE)],?_,Kept.refl _ _⟩;unfold colT;rw[if_pos (by rw[hc];exact hE)];exact HH.out)
  have HE9:=Lib.hid (show ∀w',Below w.heap.size w w'→ColIn w B g gt gr v S mac n t (.returned (.tuple #[.bool false,.int .i64 (fdE t)])) w' from fun w' hb=>⟨HE.out.e,HE.out.ga.below hb,kept_below _ hb⟩);have t1:(fdE t==0)=false:=beq_eq_false_iff_ne.2 hE;obtain⟨p,hp⟩: ∃p,fdP t=p:=⟨_,rfl⟩;rw[hp]at kd;clear hE hc hp HE;obtain⟨pd,nu,la,⟨de,ta,fr,at_⟩,tx⟩:=p;unfold Fp.vals at kd;dsimp only at kd;obtain⟨E,hE⟩: ∃E,fdE t=E:=⟨_,rfl⟩;rw[hE]at kd HE9 t1
  go_enter Tryz.func158,Tryz.ntmps158
  go_wp2_with fail
  (with_reducible refine(kd).mono ?_);rintro e1 W1 ⟨rfl,hb1⟩
  have HF:=Lib.hid (HE9.out _ (hb1.alloc hb1.size (.cells #[.int .i64 pd,.int .i64 nu,.int .i64 la,.int .i64 de,.bool ta,.bool fr,.int .i64 at_,.string tx] 263)));clear kd hb1
  go_wp2_with fail
  rw[HQ.out];exact HF.out
end Go.Proofs.YtdbpkhnmhddmmaaGreatDoor.BuN
namespace Go.Proofs.YtdbpkhnmhddmmaaGreatDoor.BuO
open Go Go.Shelf Go.RowKit Q Mem Rg Ap St Tab TmA TbM TbO TbP TbR MpA MpC MpP BuI BuN
set_option maxRecDepth 100000
def zz (k:Nat):ByteArray:=str (List.replicate k 0)
theorem zz_size (k:Nat):(zz k).size=k:=by
 have:(bl (zz k)).length=k:=by unfold zz;rw[bl_str,List.length_replicate]
 rw[←bl_len];exact this
theorem zz_any (k:Nat) (w:World) (hk:k≤140737488355328):
 Calls Tryz.prog 61 #[.string ⟨#[0]⟩,.int .i64 k] w fun e w'=>e= .returned (.string (zz k))∧Below w.heap.size w w':=by
 refine(Any.strings_Repeat PaR.lays105 PaR.extra ⟨#[0]⟩ k w (by omega) (by show 1*k≤_;omega)).mono fun e w' ⟨h1,h2⟩=>⟨?_,h2⟩;rw[h1];have:Lib.repeatL (ByteArray.mk #[0]).data.toList k=List.replicate k 0:=by simpa using Lib.repeatL_replicate 0 1 k
 rw[this];rfl
def grmE (R:Nat) (mac:Int) (t:ByteArray):Int:=if mdE t≠0 then mdE t else if 0≤mac∧(mdP t).mac≠mac then 18 else putE R (mdP t).times.at_ (mdP t).text
def endN (t:ByteArray):Nat:=(mdP t).times.at_.toNat+(mdP t).text.size
def usedN (R:Nat) (t:ByteArray):Nat:=(endN t+R-1)/R
def grmT (S:Tb) (mac:Int) (t:ByteArray):Tb:=if grmE S.R mac t≠0 then S else
 if(mdP t).times.table then padS (putS (putS S (mdP t).times.at_ (mdP t).text) (endN t:Int) (zz (usedN S.R t*S.R-endN t))) (191-(usedN S.R t:Int))else putS S (mdP t).times.at_ (mdP t).text
def grmF (R:Nat) (mac:Int) (t:ByteArray):Bool:=if grmE R mac t≠0 then false else(mdP t).times.frame
structure GrmIn (w:World) (B g gt gr:Nat) (v:Value) (S:Tb) (mac:Int) (n:Nat) (t:ByteArray) (e:Ending) (w':World):Prop where
 e:e= .returned (.tuple #[.bool (grmF S.R mac t),.int .i64 (grmE S.R mac t)])
 ga: ∃v',GaA w' B g gt gr v' (grmT S mac t) mac n∧far w v v'
 k:Kept (foot gt gr v) w w'
theorem GrmIn.same {w:World} {B g gt gr:Nat} {v:Value} {S:Tb} {mac:Int} {n:Nat} {t:ByteArray} {w':World} {E:Int} (h:GaA w B g gt gr v S mac n) (hb:Below w.heap.size w w') (hE:grmE S.R mac t=E) (h0:E≠0):GrmIn w B g gt gr v S mac n t (.returned (.tuple #[.bool false,.int .i64 E])) w':=by
 subst hE;refine⟨by unfold grmF;rw[if_pos h0],⟨v,?_,Or.inl rfl⟩,kept_below _ hb⟩;unfold grmT;rw[if_pos h0];exact h.below hb
set_option maxHeartbeats 3200000 in
theorem gram_none (w:World) (B g gt gr:Nat) (v:Value) (S:Tb) (mac:Int) (n:Nat) (t:ByteArray) (h:GaA w B g gt gr v S mac n) (hs:t.size≤1099511627776) (h0:mdE t=0) (hm:0≤mac∧(mdP t).mac≠mac):
 Calls Tryz.prog 154 #[.pointer (some ⟨g,0,none⟩),.string t] w fun e w'=>GrmIn w B g gt gr v S mac n t e w':=by
 obtain⟨Q,hQ⟩: ∃Q:Ending→World→Prop,Q=(fun e w'=>GrmIn w B g gt gr v S mac n t e w'):=⟨_,rfl⟩;rw[←hQ];have HQ:=Lib.hid hQ;have HH:=Lib.hid h;have hE:grmE S.R mac t=18:=by unfold grmE;rw[if_neg (by rw[h0];simp),if_pos hm]
 have HE:=Lib.hid (fun w' (hb:Below w.heap.size w w')=>GrmIn.same h hb hE (by decide));have kd:=mdec_any t w hs;rw[h0]at kd;have t1:decide (0≤mac)=true:=decide_eq_true hm.1;have t2:((mdP t).mac==mac)=false:=beq_eq_false_iff_ne.2 hm.2;clear hQ h hE h0 hm;obtain⟨p,hp⟩: ∃p,mdP t=p:=⟨_,rfl⟩;rw[hp]at kd;obtain⟨mc,⟨de,ta,fr,at_⟩,tx⟩:=p;unfold Mp.vals at kd;dsimp only at kd
 go_enter Tryz.func154,Tryz.ntmps154
 go_wp2_with fail
 (with_reducible refine(kd).mono ?_);rintro e1 W1 ⟨rfl,hb1⟩
 have hV:=HH.out.below hb1;have hge:=GaA.ge hV;have HK0:=Lib.hid hb1;have hn:=Blk.new W1 258 #[.int .i64 mc,.int .i64 de,.bool ta,.bool fr,.int .i64 at_,.string tx];have hbe:=(Below.refl W1.heap.size W1).alloc (Nat.le_refl _) (.cells #[.int .i64 mc,.int .i64 de,.bool ta,.bool fr,.int .i64 at_,.string tx] 258);have hV2:=hV.below hbe;clear kd hb1
 go_wp2_with fail
 refine wp_gen (fun W=>Blk W W1.heap.size 258 #[.int .i64 mc,.int .i64 de,.bool ta,.bool fr,.int .i64 at_,.string tx]∧GaA W B g gt gr v S mac n∧Below W1.heap.size W1 W) ⟨hn,hV2,hbe⟩ ?_;rintro V ⟨hP,hG,hBV⟩;clear hn hV2 hbe hV;obtain⟨b,hb⟩: ∃b,W1.heap.size=b:=⟨_,rfl⟩;rw[hb]at hP hge;rw[hb];rw[hb]at hBV;have HBV:=Lib.hid (HK0.out.trans (hBV.mono (by have:=HK0.out.size;omega)));have x0:=fun pX=>Blk.cell (blk_ext (hP) pX) 0 (v:= .int .i64 mc) rfl;have x1:=fun pX=>Blk.cell (blk_ext (hP) pX) 1 (v:= .int .i64 de) rfl;have x2:=fun pX=>Blk.cell (blk_ext (hP) pX) 2 (v:= .bool ta) rfl;have x3:=fun pX=>Blk.cell (blk_ext (hP) pX) 3 (v:= .bool fr) rfl;have x4:=fun pX=>Blk.cell (blk_ext (hP) pX) 4 (v:= .int .i64 at_) rfl;have x5:=fun pX=>Blk.cell (blk_ext (hP) pX) 5 (v:= .string tx) rfl;have g2:=fun p=>Blk.cell (blk_ext hG.box p) 2 (v:= .int .i64 mac) rfl;rw[hp]at t2;dsimp only at t2;refine Go.Proofs.YtdbpkhnmhddmmaaGreatDoor.Q.region_ext (by kernel_rfl) (by kernel_rfl) ?_
 repeat (go_big_quiet_step (fail))
 refine wpQuiet_nil ?_;rintro w9 ⟨pq,rfl⟩;have HF:=Lib.hid (HE.out _ (HBV.out.trans ((below_ext V pq).mono HBV.out.size)));clear hG hP x0 x1 x2 x3 x4 x5 g2 hge
 go_wp2_with fail
 rw[HQ.out];exact HF.out
set_option maxHeartbeats 3200000 in
theorem gram_bad (w:World) (B g gt gr:Nat) (v:Value) (S:Tb) (mac:Int) (n:Nat) (t:ByteArray) (h:GaA w B g gt gr v S mac n) (hs:t.size≤1099511627776) (h0:mdE t≠0):
 Calls Tryz.prog 154 #[.pointer (some ⟨g,0,none⟩),.string t] w fun e w'=>GrmIn w B g gt gr v S mac n t e w':=by
 obtain⟨Q,hQ⟩: ∃Q:Ending→World→Prop,Q=(fun e w'=>GrmIn w B g gt gr v S mac n t e w'):=⟨_,rfl⟩;rw[←hQ];have HQ:=Lib.hid hQ;have hE:grmE S.R mac t=mdE t:=by unfold grmE;rw[if_pos h0]
 have HE:=Lib.hid (fun w' (hb:Below w.heap.size w w')=>GrmIn.same h hb hE h0);have kd:=mdec_any t w hs;have t1:(mdE t==0)=false:=beq_eq_false_iff_ne.2 h0;clear hQ h hE h0;obtain⟨E,hE⟩: ∃E,mdE t=E:=⟨_,rfl⟩;rw[hE]at t1 kd HE;obtain⟨p,hp⟩: ∃p,mdP t=p:=⟨_,rfl⟩;rw[hp]at kd;obtain⟨mc,⟨de,ta,fr,at_⟩,tx⟩:=p;unfold Mp.vals at kd;dsimp only at kd
 go_enter Tryz.func154,Tryz.ntmps154
 go_wp2_with fail
 (with_reducible refine(kd).mono ?_);rintro e1 W1 ⟨rfl,hb1⟩
 have HF:=Lib.hid (HE.out _ (hb1.alloc hb1.size (.cells #[.int .i64 mc,.int .i64 de,.bool ta,.bool fr,.int .i64 at_,.string tx] 258)));clear kd hb1
 go_wp2_with fail
 rw[HQ.out];exact HF.out
theorem far_trans {w w1:World} {a b c:Value} (h:far w a b) (k:far w1 b c) (hw:w.heap.size≤w1.heap.size):far w a c:=by
 rcases k with e|⟨j,e,hj⟩
 ·rcases h with e2|⟨i,e2,hi⟩
  ·exact Or.inl (e.trans e2)
  ·exact Or.inr ⟨i,e.trans e2,hi⟩
 ·exact Or.inr ⟨j,e,Nat.le_trans hw hj⟩
theorem foot_back {w:World} {gt gr:Nat} {a b:Value} (h:far w a b): ∀i,i<w.heap.size→foot gt gr b i→foot gt gr a i:=by
 rintro i hi (e|e|e)
 ·exact Or.inl e
 ·exact Or.inr (Or.inl e)
 ·rcases h with e2|⟨j,e2,hj⟩
  ·exact Or.inr (Or.inr (e2▸e))
  ·rw[e2]at e;injection e with e;omega
set_option maxHeartbeats 6400000 in
theorem gram_put (w:World) (B g gt gr:Nat) (v:Value) (S:Tb) (mac:Int) (n:Nat) (t:ByteArray) (h:GaA w B g gt gr v S mac n) (hok:Ok S) (hst:S.st.length≤90000) (hR:S.R=256) (hs:t.size≤1099511627776) (h0:mdE t=0) (hm: ¬(0≤mac∧(mdP t).mac≠mac)):
 Calls Tryz.prog 154 #[.pointer (some ⟨g,0,none⟩),.string t] w fun e w'=>GrmIn w B g gt gr v S mac n t e w':=by
 obtain⟨Q,hQ⟩: ∃Q:Ending→World→Prop,Q=(fun e w'=>GrmIn w B g gt gr v S mac n t e w'):=⟨_,rfl⟩;rw[←hQ];have HQ:=Lib.hid hQ;have HH:=Lib.hid h;have HO:=Lib.hid hok;have HRR:=Lib.hid hR;have HST:=Lib.hid hst;have hE:grmE S.R mac t=putE S.R (mdP t).times.at_ (mdP t).text:=by unfold grmE;rw[if_neg (by rw[h0];simp),if_neg hm]
 have HGE:=Lib.hid hE;have kd:=mdec_any t w hs;rw[h0]at kd;have hck:=(enc_md h0).1;have HCK:=Lib.hid (mchk_zero hck);have HTX:=Lib.hid (show(mdP t).text.size≤1099511627776 by have:=MpA.dg_size (mchk_zero hck).2.2;omega);clear hQ h hE h0 hck hok hR hst;by_cases h1:0≤mac
 ·have t1:decide (0≤mac)=true:=decide_eq_true h1
  have t2:((mdP t).mac==mac)=true:=beq_iff_eq.2 (Decidable.byContradiction fun h=>hm ⟨h1,h⟩);clear h1 hm;obtain⟨p,hp⟩: ∃p,mdP t=p:=⟨_,rfl⟩;rw[hp]at kd;obtain⟨mc,⟨de,ta,fr,at_⟩,tx⟩:=p;unfold Mp.vals at kd;dsimp only at kd
  go_enter Tryz.func154,Tryz.ntmps154
  go_wp2_with fail
  (with_reducible refine(kd).mono ?_);rintro e1 W1 ⟨rfl,hb1⟩
  have hV:=HH.out.below hb1;have hge:=GaA.ge hV;have HK0:=Lib.hid hb1;have hn:=Blk.new W1 258 #[.int .i64 mc,.int .i64 de,.bool ta,.bool fr,.int .i64 at_,.string tx];have hbe:=(Below.refl W1.heap.size W1).alloc (Nat.le_refl _) (.cells #[.int .i64 mc,.int .i64 de,.bool ta,.bool fr,.int .i64 at_,.string tx] 258);have hV2:=hV.below hbe;clear kd hb1
  go_wp2_with fail
  refine wp_gen (fun W=>Blk W W1.heap.size 258 #[.int .i64 mc,.int .i64 de,.bool ta,.bool fr,.int .i64 at_,.string tx]∧GaA W B g gt gr v S mac n∧Below W1.heap.size W1 W) ⟨hn,hV2,hbe⟩ ?_;rintro V ⟨hP,hG,hBV⟩;clear hn hV2 hbe hV;obtain⟨b,hb⟩: ∃b,W1.heap.size=b:=⟨_,rfl⟩;rw[hb]at hP hge;rw[hb];rw[hb]at hBV;have HBV:=Lib.hid (HK0.out.trans (hBV.mono (by have:=HK0.out.size;omega)));have x0:=fun pX=>Blk.cell (blk_ext (hP) pX) 0 (v:= .int .i64 mc) rfl;have x1:=fun pX=>Blk.cell (blk_ext (hP) pX) 1 (v:= .int .i64 de) rfl;have x2:=fun pX=>Blk.cell (blk_ext (hP) pX) 2 (v:= .bool ta) rfl;have x3:=fun pX=>Blk.cell (blk_ext (hP) pX) 3 (v:= .bool fr) rfl;have x4:=fun pX=>Blk.cell (blk_ext (hP) pX) 4 (v:= .int .i64 at_) rfl;have x5:=fun pX=>Blk.cell (blk_ext (hP) pX) 5 (v:= .string tx) rfl;have g2:=fun p=>Blk.cell (blk_ext hG.box p) 2 (v:= .int .i64 mac) rfl;rw[hp]at t2 HCK HTX HGE;dsimp only at t2 HCK HTX HGE;refine Go.Proofs.YtdbpkhnmhddmmaaGreatDoor.Q.region_ext (by kernel_rfl) (by kernel_rfl) ?_
  repeat (go_big_quiet_step (fail))
  refine wpQuiet_nil ?_;rintro w9 ⟨pq,rfl⟩;have hbx:=below_ext V pq;have hGx:=hG.below hbx;have hPx:=Blk.below hP hbx (Blk.lt hP);have HBU:=Lib.hid (HBV.out.trans (hbx.mono HBV.out.size));obtain⟨U,hU⟩: ∃U,ext V pq=U:=⟨_,rfl⟩;rw[hU]at hGx hPx HBU ⊢;clear hU hbx hG hP x0 x1 x2 x3 x4 x5 g2 HBV hBV
  go_wp2_with fail
  have x0:=Blk.cell (hPx) 0 (v:= .int .i64 mc) rfl;have x1:=Blk.cell (hPx) 1 (v:= .int .i64 de) rfl;have x2:=Blk.cell (hPx) 2 (v:= .bool ta) rfl;have x3:=Blk.cell (hPx) 3 (v:= .bool fr) rfl;have x4:=Blk.cell (hPx) 4 (v:= .int .i64 at_) rfl;have x5:=Blk.cell (hPx) 5 (v:= .string tx) rfl;have g0:=Blk.cell hGx.box 0 (v:= .pointer (some ⟨gt,0,none⟩)) rfl;have hGd:=hGx.below (below_drewN (Below.refl U.heap.size U) 1);have kp:=TbP.put_any U.drew B gt gr v S at_ tx hGd.t HO.out HTX.out;have hgv:=Blk.lt hGx.box;have hbv:=Blk.lt hPx;have hfb: ¬foot gt gr v b:=fun h=>by have:=(hge b (Or.inr h)).2;omega
  have hap:=hGx.ap
  go_region_held3 (fun w'=>w'.cell? ⟨g,0,none⟩=some (.pointer (some ⟨gt,0,none⟩))∧w'.cell? ⟨b,4,none⟩=some (.int .i64 at_)∧w'.cell? ⟨b,5,none⟩=some (.string tx))
   (first
    |exact⟨g0,x4,x5⟩
    |exact⟨(hk9.cell (p:=⟨g,0,none⟩) hgv hap).trans g0,(hk9.cell (p:=⟨b,4,none⟩) hbv hfb).trans x4,(hk9.cell (p:=⟨b,5,none⟩) hbv hfb).trans x5⟩)
   ((go_at_call 180;refine kp.mono ?_;rintro e w9 ⟨v9,rfl,ht9,hf9,hk9⟩))
  have hG9:=hGd.table ht9 (put_R S at_ tx) hf9 hk9;have hK9:Kept (foot gt gr v) w w9:=Kept.pre (below_drewN HBU.out 1) hk9;have hP9:Blk w9 b 258 #[.int .i64 mc,.int .i64 de,.bool ta,.bool fr,.int .i64 at_,.string tx]:=(hk9.block b hbv hfb).trans hPx;have hfb9: ¬foot gt gr v9 b:=fun h=>hfb (foot_back hf9 b hbv h);have hF9:far w v v9:=hf9.imp id (fun⟨j,h1,h2⟩=>⟨j,h1,Nat.le_trans HBU.out.size h2⟩);have HBU9:=Lib.hid HBU.out.size;clear hk9 ht9 hGd hGx hPx kp g0 x0 x1 x2 x3 x4 x5 hf9 hgv hbv hge
  have hz:putE S.R at_ tx=0∨((putE S.R at_ tx==0)=false∧putE S.R at_ tx≠0):=by
   by_cases h:putE S.R at_ tx=0
   ·exact Or.inl h
   ·exact Or.inr ⟨beq_eq_false_iff_ne.2 h,h⟩
  rcases hz with h0|⟨h1,h2⟩
  ·rw[h0]
   have HG0:=Lib.hid (HGE.out.trans h0);have HPE:=Lib.hid h0;clear h0 HGE
   cases ta with
   |false=>
    have x0:=Blk.cell (hP9) 0 (v:= .int .i64 mc) rfl;have x1:=Blk.cell (hP9) 1 (v:= .int .i64 de) rfl;have x2:=Blk.cell (hP9) 2 (v:= .bool false) rfl;have x3:=Blk.cell (hP9) 3 (v:= .bool fr) rfl;have x4:=Blk.cell (hP9) 4 (v:= .int .i64 at_) rfl;have x5:=Blk.cell (hP9) 5 (v:= .string tx) rfl;have HF:=Lib.hid (show GrmIn w B g gt gr v S mac n t (.returned (.tuple #[.bool fr,.int .i64 0])) w9 from⟨by rw[HG0.out];unfold grmF;rw[if_neg (by rw[HG0.out];simp),hp],⟨v9,by unfold grmT;rw[if_neg (by rw[HG0.out];simp),hp];exact hG9,hF9⟩,hK9⟩);clear hG9 hK9 hF9 hP9 hp
    go_wp2_with fail
    rw[HQ.out];exact HF.out
   |true=>
    have x0:=Blk.cell (hP9) 0 (v:= .int .i64 mc) rfl;have x1:=Blk.cell (hP9) 1 (v:= .int .i64 de) rfl;have x2:=Blk.cell (hP9) 2 (v:= .bool true) rfl;have x3:=Blk.cell (hP9) 3 (v:= .bool fr) rfl;have x4:=Blk.cell (hP9) 4 (v:= .int .i64 at_) rfl;have x5:=Blk.cell (hP9) 5 (v:= .string tx) rfl;have g1:=fun p=>Blk.cell (blk_ext hG9.box p) 1 (v:= .int .i64 256) (by rw[put_R,HRR.out];rfl)
    have hb9:0≤at_∧at_+(tx.size:Int)≤48896:=by
     have h1:=HPE.out;rw[HRR.out]at h1;unfold putE at h1;by_cases h2:at_<0∨((191*256:Nat):Int)<at_∨((191*256:Nat):Int)-at_<tx.size
     ·rw[if_pos h2]at h1;exact absurd h1 (by decide)
     ·omega
    obtain⟨A,rfl⟩: ∃A:Nat,at_=(A:Int):=⟨at_.toNat,by omega⟩;have A0:(0:Int)≤(A:Int):=Int.natCast_nonneg _;have A1:(A:Int)+(tx.size:Int)≤48896:=hb9.2;clear hb9
    go_wp2_with fail
    refine Go.Proofs.YtdbpkhnmhddmmaaGreatDoor.Q.region_ext (by kernel_rfl) (by kernel_rfl) ?_
    repeat (go_big_quiet_step (fail))
    refine wpQuiet_nil ?_;rintro w7 ⟨pq,rfl⟩;have hbx:=below_ext w9 pq;have hG7:=hG9.below hbx;have hP7:=Blk.below hP9 hbx (Blk.lt hP9);have hK7:=hK9.then (hbx.mono hK9.size);have hS7:w.heap.size≤(ext w9 pq).heap.size:=hK7.size;obtain⟨U,hU⟩: ∃U,ext w9 pq=U:=⟨_,rfl⟩;rw[hU]at hG7 hP7 hK7 hS7 ⊢;clear hU hbx hG9 hP9 hK9 x0 x1 x2 x3 x4 x5 g1;obtain⟨D,hD⟩: ∃D,(A+tx.size+255)/256=D:=⟨_,rfl⟩;obtain⟨M,hM⟩: ∃M,A+tx.size=M:=⟨_,rfl⟩;rw[show((A:Int)+(tx.size:Int)+256-1)/256=(D:Int) by omega,show(A:Int)+(tx.size:Int)=(M:Int) by omega];have HDM:=Lib.hid (And.intro hD hM);have D1:(D:Int)≤191:=by omega
    have D2:M≤D*256:=by omega
    have M0:(M:Int)≤48896:=by omega
    clear hD hM A0 A1;have D0:(0:Int)≤(D:Int):=Int.natCast_nonneg _;have g0:=Blk.cell hG7.box 0 (v:= .pointer (some ⟨gt,0,none⟩)) rfl;have g1:=Blk.cell hG7.box 1 (v:= .int .i64 256) (by rw[put_R,HRR.out];rfl);have hgv:=Blk.lt hG7.box;have hap7:=hG7.ap;obtain⟨k,hk⟩: ∃k,D*256-M=k:=⟨_,rfl⟩;have HK:=Lib.hid hk
    have kz: ∀V,Calls Tryz.prog 61 #[.string ⟨#[0]⟩,.int .i64 (IntKind.i64.wrap (IntKind.i64.wrap ((D:Int)*256)-(M:Int)))] V fun e w'=>e= .returned (.string (zz k))∧Below V.heap.size V w':=fun V=>by
     have:=zz_any k V (by omega)
     rw[show IntKind.i64.wrap (IntKind.i64.wrap ((D:Int)*256)-(M:Int))=(k:Int) by
      have e1:IntKind.i64.wrap ((D:Int)*256)=(D:Int)*256:=by rw[IntKind.wrap_i64];omega
      have e2:IntKind.i64.wrap ((D:Int)*256-(M:Int))=(D:Int)*256-(M:Int):=by rw[IntKind.wrap_i64];omega
      rw[e1,e2];omega]
     exact this
    have hk9:k≤48896:=by omega
    have ho1:=LaB.put_ok HO.out (by have:=HST.out;omega) (A:Int) tx;have kp2:=fun W (h:TbIn W B gt gr v9 (putS S (A:Int) tx))=>TbP.put_any W B gt gr v9 (putS S (A:Int) tx) (M:Int) (zz k) h ho1.1 (by rw[zz_size];omega);have HO2:=Lib.hid (LaB.put_ok ho1.1 (by have:=HST.out;have:=ho1.2;omega) (M:Int) (zz k));have hb7:b<U.heap.size:=Blk.lt hP7;clear hk ho1
    go_wp2_with fail
    go_region_held3 (fun w'=>w'.cell? ⟨g,0,none⟩=some (.pointer (some ⟨gt,0,none⟩))∧w'.cell? ⟨g,1,none⟩=some (.int .i64 256))
     (first
      |exact⟨g0,g1⟩
      |exact⟨(hb8.cell (p:=⟨g,0,none⟩) hgv).trans g0,(hb8.cell (p:=⟨g,1,none⟩) hgv).trans g1⟩
      |exact⟨(hk6.cell (p:=⟨g,0,none⟩) hgv8 hap7).trans ((hb8.cell (p:=⟨g,0,none⟩) hgv).trans g0),(hk6.cell (p:=⟨g,1,none⟩) hgv8 hap7).trans ((hb8.cell (p:=⟨g,1,none⟩) hgv).trans g1)⟩)
     (first
      |(go_at_call 61;refine(kz U.drew).mono ?_;rintro e w8 ⟨rfl,hb8⟩;have hG8:=(hG7.below (below_drewN (Below.refl U.heap.size U) 1)).below hb8;have hgv8:=Blk.lt hG8.box)
      |(go_at_call 180;refine(kp2 w8 hG8.t).mono ?_;rintro e w6 ⟨v6,rfl,ht6,hf6,hk6⟩))
    have hG6:=hG8.table ht6 (put_R _ _ _) hf6 hk6;have hP6:Blk w6 b 258 #[.int .i64 mc,.int .i64 de,.bool true,.bool fr,.int .i64 (A:Int),.string tx]:=(hk6.block b (Nat.lt_of_lt_of_le hb7 hb8.size) hfb9).trans ((hb8.block b hb7).trans hP7);have hb88:Below U.heap.size U w8:=(below_drewN (Below.refl U.heap.size U) 1).trans hb8;have hK8:=hK7.then (hb88.mono hS7);have hK6:=hK8.trans hk6 (foot_back hF9);have hF6:=far_trans hF9 hf6 hK8.size;have hfb6: ¬foot gt gr v6 b:=fun h=>hfb9 (foot_back hf6 b (Nat.lt_of_lt_of_le hb7 hb8.size) h);clear hG7 hP7 hK7 hS7 hb8 hG8 ht6 hf6 hk6 hb88 hK8 kz kp2 g0 g1 hgv hap7 hgv8;have g0:=Blk.cell hG6.box 0 (v:= .pointer (some ⟨gt,0,none⟩)) rfl;have kd:=TbR.pad_any w6 B gt gr v6 (putS (putS S (A:Int) tx) (M:Int) (zz k)) (191-(D:Int)) hG6.t HO2.out.1
    go_wp2_with fail
    (with_reducible refine(kd).mono ?_);rintro e4 W4 ⟨rfl,ht4,hk4⟩
    have hqR:(padS (putS (putS S (A:Int) tx) (M:Int) (zz k)) (191-(D:Int))).R=(putS (putS S (A:Int) tx) (M:Int) (zz k)).R:=by unfold padS;split<;>rfl
    have hG4:=hG6.table ht4 hqR (Or.inl rfl) hk4;have hK4:=hK6.trans hk4 (foot_back hF6);have hP4:=(hk4.block b (Blk.lt hP6) hfb6).trans hP6;have z3:=Blk.cell (show Blk W4 b 258 #[.int .i64 mc,.int .i64 de,.bool true,.bool fr,.int .i64 (A:Int),.string tx]from hP4) 3 (v:= .bool fr) rfl
    have hTT:grmT S mac t=padS (putS (putS S (A:Int) tx) (M:Int) (zz k)) (191-(D:Int)):=by
     unfold grmT usedN endN;rw[if_neg (by rw[HG0.out];simp),hp,HRR.out];dsimp only;rw[if_pos rfl,Int.toNat_natCast,HDM.out.2,show(M+256-1)/256=D by have:=HDM.out;omega,HK.out]
    have HF:=Lib.hid (show GrmIn w B g gt gr v S mac n t (.returned (.tuple #[.bool fr,.int .i64 0])) W4 from⟨by rw[HG0.out];unfold grmF;rw[if_neg (by rw[HG0.out];simp),hp],⟨v6,by rw[hTT];exact hG4,hF6⟩,hK4⟩);clear hG4 hK4 hP4 hTT hqR hG6 hK6 hP6 ht4 hk4 kd g0 hp hF6 hfb6 hF9 HO2
    go_wp2_with fail
    rw[HQ.out];exact HF.out
  ·have hps:putS S at_ tx=S:=by unfold putS;rw[if_pos (Or.inl h2)]
   rw[hps]at hG9;have hgn:grmE S.R mac t≠0:=by rw[HGE.out];exact h2
   have HF:=Lib.hid (show GrmIn w B g gt gr v S mac n t (.returned (.tuple #[.bool false,.int .i64 (putE S.R at_ tx)])) w9 from⟨by rw[HGE.out];unfold grmF;rw[if_pos hgn],⟨v9,by unfold grmT;rw[if_pos hgn];exact hG9,hF9⟩,hK9⟩);clear hG9 hK9 hF9 hP9 hp hgn hps h2
   go_wp2_with fail
   rw[HQ.out];exact HF.out
 ·have t1:decide (0≤mac)=false:=decide_eq_false h1
  clear h1 hm;obtain⟨p,hp⟩: ∃p,mdP t=p:=⟨_,rfl⟩;rw[hp]at kd;obtain⟨mc,⟨de,ta,fr,at_⟩,tx⟩:=p;unfold Mp.vals at kd;dsimp only at kd
  go_enter Tryz.func154,Tryz.ntmps154
  go_wp2_with fail
  (with_reducible refine(kd).mono ?_);rintro e1 W1 ⟨rfl,hb1⟩
  have hV:=HH.out.below hb1;have hge:=GaA.ge hV;have HK0:=Lib.hid hb1;have hn:=Blk.new W1 258 #[.int .i64 mc,.int .i64 de,.bool ta,.bool fr,.int .i64 at_,.string tx];have hbe:=(Below.refl W1.heap.size W1).alloc (Nat.le_refl _) (.cells #[.int .i64 mc,.int .i64 de,.bool ta,.bool fr,.int .i64 at_,.string tx] 258);have hV2:=hV.below hbe;clear kd hb1
  go_wp2_with fail
  refine wp_gen (fun W=>Blk W W1.heap.size 258 #[.int .i64 mc,.int .i64 de,.bool ta,.bool fr,.int .i64 at_,.string tx]∧GaA W B g gt gr v S mac n∧Below W1.heap.size W1 W) ⟨hn,hV2,hbe⟩ ?_;rintro V ⟨hP,hG,hBV⟩;clear hn hV2 hbe hV;obtain⟨b,hb⟩: ∃b,W1.heap.size=b:=⟨_,rfl⟩;rw[hb]at hP hge;rw[hb];rw[hb]at hBV;have HBV:=Lib.hid (HK0.out.trans (hBV.mono (by have:=HK0.out.size;omega)));have x0:=fun pX=>Blk.cell (blk_ext (hP) pX) 0 (v:= .int .i64 mc) rfl;have x1:=fun pX=>Blk.cell (blk_ext (hP) pX) 1 (v:= .int .i64 de) rfl;have x2:=fun pX=>Blk.cell (blk_ext (hP) pX) 2 (v:= .bool ta) rfl;have x3:=fun pX=>Blk.cell (blk_ext (hP) pX) 3 (v:= .bool fr) rfl;have x4:=fun pX=>Blk.cell (blk_ext (hP) pX) 4 (v:= .int .i64 at_) rfl;have x5:=fun pX=>Blk.cell (blk_ext (hP) pX) 5 (v:= .string tx) rfl;have g2:=fun p=>Blk.cell (blk_ext hG.box p) 2 (v:= .int .i64 mac) rfl;rw[hp]at HCK HTX HGE;dsimp only at HCK HTX HGE;refine Go.Proofs.YtdbpkhnmhddmmaaGreatDoor.Q.region_ext (by kernel_rfl) (by kernel_rfl) ?_
  repeat (go_big_quiet_step (fail))
  refine wpQuiet_nil ?_;rintro w9 ⟨pq,rfl⟩;have hbx:=below_ext V pq;have hGx:=hG.below hbx;have hPx:=Blk.below hP hbx (Blk.lt hP);have HBU:=Lib.hid (HBV.out.trans (hbx.mono HBV.out.size));obtain⟨U,hU⟩: ∃U,ext V pq=U:=⟨_,rfl⟩;rw[hU]at hGx hPx HBU ⊢;clear hU hbx hG hP x0 x1 x2 x3 x4 x5 g2 HBV hBV
  go_wp2_with fail
  have x0:=Blk.cell (hPx) 0 (v:= .int .i64 mc) rfl;have x1:=Blk.cell (hPx) 1 (v:= .int .i64 de) rfl;have x2:=Blk.cell (hPx) 2 (v:= .bool ta) rfl;have x3:=Blk.cell (hPx) 3 (v:= .bool fr) rfl;have x4:=Blk.cell (hPx) 4 (v:= .int .i64 at_) rfl;have x5:=Blk.cell (hPx) 5 (v:= .string tx) rfl;have g0:=Blk.cell hGx.box 0 (v:= .pointer (some ⟨gt,0,none⟩)) rfl;have hGd:=hGx.below (below_drewN (Below.refl U.heap.size U) 1);have kp:=TbP.put_any U.drew B gt gr v S at_ tx hGd.t HO.out HTX.out;have hgv:=Blk.lt hGx.box;have hbv:=Blk.lt hPx;have hfb: ¬foot gt gr v b:=fun h=>by have:=(hge b (Or.inr h)).2;omega
  have hap:=hGx.ap
  go_region_held3 (fun w'=>w'.cell? ⟨g,0,none⟩=some (.pointer (some ⟨gt,0,none⟩))∧w'.cell? ⟨b,4,none⟩=some (.int .i64 at_)∧w'.cell? ⟨b,5,none⟩=some (.string tx))
   (first
    |exact⟨g0,x4,x5⟩
    |exact⟨(hk9.cell (p:=⟨g,0,none⟩) hgv hap).trans g0,(hk9.cell (p:=⟨b,4,none⟩) hbv hfb).trans x4,(hk9.cell (p:=⟨b,5,none⟩) hbv hfb).trans x5⟩)
   ((go_at_call 180;refine kp.mono ?_;rintro e w9 ⟨v9,rfl,ht9,hf9,hk9⟩))
  have hG9:=hGd.table ht9 (put_R S at_ tx) hf9 hk9;have hK9:Kept (foot gt gr v) w w9:=Kept.pre (below_drewN HBU.out 1) hk9;have hP9:Blk w9 b 258 #[.int .i64 mc,.int .i64 de,.bool ta,.bool fr,.int .i64 at_,.string tx]:=(hk9.block b hbv hfb).trans hPx;have hfb9: ¬foot gt gr v9 b:=fun h=>hfb (foot_back hf9 b hbv h);have hF9:far w v v9:=hf9.imp id (fun⟨j,h1,h2⟩=>⟨j,h1,Nat.le_trans HBU.out.size h2⟩);have HBU9:=Lib.hid HBU.out.size;clear hk9 ht9 hGd hGx hPx kp g0 x0 x1 x2 x3 x4 x5 hf9 hgv hbv hge
  have hz:putE S.R at_ tx=0∨((putE S.R at_ tx==0)=false∧putE S.R at_ tx≠0):=by
   by_cases h:putE S.R at_ tx=0
   ·exact Or.inl h
   ·exact Or.inr ⟨beq_eq_false_iff_ne.2 h,h⟩
  rcases hz with h0|⟨h1,h2⟩
  ·rw[h0]
   have HG0:=Lib.hid (HGE.out.trans h0);have HPE:=Lib.hid h0;clear h0 HGE
   cases ta with
   |false=>
    have x0:=Blk.cell (hP9) 0 (v:= .int .i64 mc) rfl;have x1:=Blk.cell (hP9) 1 (v:= .int .i64 de) rfl;have x2:=Blk.cell (hP9) 2 (v:= .bool false) rfl;have x3:=Blk.cell (hP9) 3 (v:= .bool fr) rfl;have x4:=Blk.cell (hP9) 4 (v:= .int .i64 at_) rfl;have x5:=Blk.cell (hP9) 5 (v:= .string tx) rfl;have HF:=Lib.hid (show GrmIn w B g gt gr v S mac n t (.returned (.tuple #[.bool fr,.int .i64 0])) w9 from⟨by rw[HG0.out];unfold grmF;rw[if_neg (by rw[HG0.out];simp),hp],⟨v9,by unfold grmT;rw[if_neg (by rw[HG0.out];simp),hp];exact hG9,hF9⟩,hK9⟩);clear hG9 hK9 hF9 hP9 hp
    go_wp2_with fail
    rw[HQ.out];exact HF.out
   |true=>
    have x0:=Blk.cell (hP9) 0 (v:= .int .i64 mc) rfl;have x1:=Blk.cell (hP9) 1 (v:= .int .i64 de) rfl;have x2:=Blk.cell (hP9) 2 (v:= .bool true) rfl;have x3:=Blk.cell (hP9) 3 (v:= .bool fr) rfl;have x4:=Blk.cell (hP9) 4 (v:= .int .i64 at_) rfl;have x5:=Blk.cell (hP9) 5 (v:= .string tx) rfl;have g1:=fun p=>Blk.cell (blk_ext hG9.box p) 1 (v:= .int .i64 256) (by rw[put_R,HRR.out];rfl)
    have hb9:0≤at_∧at_+(tx.size:Int)≤48896:=by
     have h1:=HPE.out;rw[HRR.out]at h1;unfold putE at h1;by_cases h2:at_<0∨((191*256:Nat):Int)<at_∨((191*256:Nat):Int)-at_<tx.size
     ·rw[if_pos h2]at h1;exact absurd h1 (by decide)
     ·omega
    obtain⟨A,rfl⟩: ∃A:Nat,at_=(A:Int):=⟨at_.toNat,by omega⟩;have A0:(0:Int)≤(A:Int):=Int.natCast_nonneg _;have A1:(A:Int)+(tx.size:Int)≤48896:=hb9.2;clear hb9
    go_wp2_with fail
    refine Go.Proofs.YtdbpkhnmhddmmaaGreatDoor.Q.region_ext (by kernel_rfl) (by kernel_rfl) ?_
    repeat (go_big_quiet_step (fail))
    refine wpQuiet_nil ?_;rintro w7 ⟨pq,rfl⟩;have hbx:=below_ext w9 pq;have hG7:=hG9.below hbx;have hP7:=Blk.below hP9 hbx (Blk.lt hP9);have hK7:=hK9.then (hbx.mono hK9.size);have hS7:w.heap.size≤(ext w9 pq).heap.size:=hK7.size;obtain⟨U,hU⟩: ∃U,ext w9 pq=U:=⟨_,rfl⟩;rw[hU]at hG7 hP7 hK7 hS7 ⊢;clear hU hbx hG9 hP9 hK9 x0 x1 x2 x3 x4 x5 g1;obtain⟨D,hD⟩: ∃D,(A+tx.size+255)/256=D:=⟨_,rfl⟩;obtain⟨M,hM⟩: ∃M,A+tx.size=M:=⟨_,rfl⟩;rw[show((A:Int)+(tx.size:Int)+256-1)/256=(D:Int) by omega,show(A:Int)+(tx.size:Int)=(M:Int) by omega];have HDM:=Lib.hid (And.intro hD hM);have D1:(D:Int)≤191:=by omega
    have D2:M≤D*256:=by omega
    have M0:(M:Int)≤48896:=by omega
    clear hD hM A0 A1;have D0:(0:Int)≤(D:Int):=Int.natCast_nonneg _;have g0:=Blk.cell hG7.box 0 (v:= .pointer (some ⟨gt,0,none⟩)) rfl;have g1:=Blk.cell hG7.box 1 (v:= .int .i64 256) (by rw[put_R,HRR.out];rfl);have hgv:=Blk.lt hG7.box;have hap7:=hG7.ap;obtain⟨k,hk⟩: ∃k,D*256-M=k:=⟨_,rfl⟩;have HK:=Lib.hid hk
    have kz: ∀V,Calls Tryz.prog 61 #[.string ⟨#[0]⟩,.int .i64 (IntKind.i64.wrap (IntKind.i64.wrap ((D:Int)*256)-(M:Int)))] V fun e w'=>e= .returned (.string (zz k))∧Below V.heap.size V w':=fun V=>by
     have:=zz_any k V (by omega)
     rw[show IntKind.i64.wrap (IntKind.i64.wrap ((D:Int)*256)-(M:Int))=(k:Int) by
      have e1:IntKind.i64.wrap ((D:Int)*256)=(D:Int)*256:=by rw[IntKind.wrap_i64];omega
      have e2:IntKind.i64.wrap ((D:Int)*256-(M:Int))=(D:Int)*256-(M:Int):=by rw[IntKind.wrap_i64];omega
      rw[e1,e2];omega]
     exact this
    have hk9:k≤48896:=by omega
    have ho1:=LaB.put_ok HO.out (by have:=HST.out;omega) (A:Int) tx;have kp2:=fun W (h:TbIn W B gt gr v9 (putS S (A:Int) tx))=>TbP.put_any W B gt gr v9 (putS S (A:Int) tx) (M:Int) (zz k) h ho1.1 (by rw[zz_size];omega);have HO2:=Lib.hid (LaB.put_ok ho1.1 (by have:=HST.out;have:=ho1.2;omega) (M:Int) (zz k));have hb7:b<U.heap.size:=Blk.lt hP7;clear hk ho1
    go_wp2_with fail
    go_region_held3 (fun w'=>w'.cell? ⟨g,0,none⟩=some (.pointer (some ⟨gt,0,none⟩))∧w'.cell? ⟨g,1,none⟩=some (.int .i64 256))
     (first
      |exact⟨g0,g1⟩
      |exact⟨(hb8.cell (p:=⟨g,0,none⟩) hgv).trans g0,(hb8.cell (p:=⟨g,1,none⟩) hgv).trans g1⟩
      |exact⟨(hk6.cell (p:=⟨g,0,none⟩) hgv8 hap7).trans ((hb8.cell (p:=⟨g,0,none⟩) hgv).trans g0),(hk6.cell (p:=⟨g,1,none⟩) hgv8 hap7).trans ((hb8.cell (p:=⟨g,1,none⟩) hgv).trans g1)⟩)
     (first
      |(go_at_call 61;refine(kz U.drew).mono ?_;rintro e w8 ⟨rfl,hb8⟩;have hG8:=(hG7.below (below_drewN (Below.refl U.heap.size U) 1)).below hb8;have hgv8:=Blk.lt hG8.box)
      |(go_at_call 180;refine(kp2 w8 hG8.t).mono ?_;rintro e w6 ⟨v6,rfl,ht6,hf6,hk6⟩))
    have hG6:=hG8.table ht6 (put_R _ _ _) hf6 hk6;have hP6:Blk w6 b 258 #[.int .i64 mc,.int .i64 de,.bool true,.bool fr,.int .i64 (A:Int),.string tx]:=(hk6.block b (Nat.lt_of_lt_of_le hb7 hb8.size) hfb9).trans ((hb8.block b hb7).trans hP7);have hb88:Below U.heap.size U w8:=(below_drewN (Below.refl U.heap.size U) 1).trans hb8;have hK8:=hK7.then (hb88.mono hS7);have hK6:=hK8.trans hk6 (foot_back hF9);have hF6:=far_trans hF9 hf6 hK8.size;have hfb6: ¬foot gt gr v6 b:=fun h=>hfb9 (foot_back hf6 b (Nat.lt_of_lt_of_le hb7 hb8.size) h);clear hG7 hP7 hK7 hS7 hb8 hG8 ht6 hf6 hk6 hb88 hK8 kz kp2 g0 g1 hgv hap7 hgv8;have g0:=Blk.cell hG6.box 0 (v:= .pointer (some ⟨gt,0,none⟩)) rfl;have kd:=TbR.pad_any w6 B gt gr v6 (putS (putS S (A:Int) tx) (M:Int) (zz k)) (191-(D:Int)) hG6.t HO2.out.1
    go_wp2_with fail
    (with_reducible refine(kd).mono ?_);rintro e4 W4 ⟨rfl,ht4,hk4⟩
    have hqR:(padS (putS (putS S (A:Int) tx) (M:Int) (zz k)) (191-(D:Int))).R=(putS (putS S (A:Int) tx) (M:Int) (zz k)).R:=by unfold padS;split<;>rfl
    have hG4:=hG6.table ht4 hqR (Or.inl rfl) hk4;have hK4:=hK6.trans hk4 (foot_back hF6);have hP4:=(hk4.block b (Blk.lt hP6) hfb6).trans hP6;have z3:=Blk.cell (show Blk W4 b 258 #[.int .i64 mc,.int .i64 de,.bool true,.bool fr,.int .i64 (A:Int),.string tx]from hP4) 3 (v:= .bool fr) rfl
    have hTT:grmT S mac t=padS (putS (putS S (A:Int) tx) (M:Int) (zz k)) (191-(D:Int)):=by
     unfold grmT usedN endN;rw[if_neg (by rw[HG0.out];simp),hp,HRR.out];dsimp only;rw[if_pos rfl,Int.toNat_natCast,HDM.out.2,show(M+256-1)/256=D by have:=HDM.out;omega,HK.out]
    have HF:=Lib.hid (show GrmIn w B g gt gr v S mac n t (.returned (.tuple #[.bool fr,.int .i64 0])) W4 from⟨by rw[HG0.out];unfold grmF;rw[if_neg (by rw[HG0.out];simp),hp],⟨v6,by rw[hTT];exact hG4,hF6⟩,hK4⟩);clear hG4 hK4 hP4 hTT hqR hG6 hK6 hP6 ht4 hk4 kd g0 hp hF6 hfb6 hF9 HO2
    go_wp2_with fail
    rw[HQ.out];exact HF.out
  ·have hps:putS S at_ tx=S:=by unfold putS;rw[if_pos (Or.inl h2)]
   rw[hps]at hG9;have hgn:grmE S.R mac t≠0:=by rw[HGE.out];exact h2
   have HF:=Lib.hid (show GrmIn w B g gt gr v S mac n t (.returned (.tuple #[.bool false,.int .i64 (putE S.R at_ tx)])) w9 from⟨by rw[HGE.out];unfold grmF;rw[if_pos hgn],⟨v9,by unfold grmT;rw[if_pos hgn];exact hG9,hF9⟩,hK9⟩);clear hG9 hK9 hF9 hP9 hp hgn hps h2
   go_wp2_with fail
   rw[HQ.out];exact HF.out
end Go.Proofs.YtdbpkhnmhddmmaaGreatDoor.BuO
namespace Go.Proofs.YtdbpkhnmhddmmaaGreatDoor.BuP
open Go Go.RowKit Q Mem Rg Ap St Tab TmA TbM TbO TbP BuA BuI BuN BuO
set_option maxRecDepth 100000
theorem taken_any {w:World} {B g gt gr:Nat} {v:Value} {S:Tb} {mac:Int} {n:Nat} (h:GaA w B g gt gr v S mac n):Calls Tryz.prog 14 #[.pointer (some ⟨g,0,none⟩)] w fun e w'=>e= .returned (.int .i64 (n:Int))∧w=w':=by
 have c3:=Blk.cell h.box 3 (v:= .int .i64 (n:Int)) rfl;clear h
 go_enter Tryz.func14,Tryz.ntmps14
 go_wp2_with fail
 go_ret;exact⟨rfl,rfl⟩
def tkE (R:Nat) (mac:Int) (t:ByteArray):Int:=if isM t then grmE R mac t else if isF t then colE R t else 14
def tkT (S:Tb) (mac:Int) (t:ByteArray):Tb:=if isM t then grmT S mac t else if isF t then colT S t else S
def tkF (R:Nat) (mac:Int) (t:ByteArray):Bool:=if isM t then grmF R mac t else if isF t then colF R t else false
def tkN (R:Nat) (mac:Int) (t:ByteArray) (n:Nat):Nat:=if tkE R mac t=0 then n+1 else n
structure TkIn (w:World) (B g gt gr:Nat) (v:Value) (S:Tb) (mac:Int) (n:Nat) (t:ByteArray) (e:Ending) (w':World):Prop where
 e:e= .returned (.tuple #[.bool (tkF S.R mac t),.int .i64 (tkE S.R mac t)])
 ga: ∃v',GaA w' B g gt gr v' (tkT S mac t) mac (tkN S.R mac t n)∧far w v v'
 k:Kept (footG g gt gr v) w w'
theorem take_z (w:World) (B g gt gr:Nat) (v:Value) (S:Tb) (mac:Int) (n:Nat) (t:ByteArray) (h:GaA w B g gt gr v S mac n) (h1:isM t=false) (h2:isF t=false):
 Calls Tryz.prog 48 #[.pointer (some ⟨g,0,none⟩),.string t] w fun e w'=>TkIn w B g gt gr v S mac n t e w':=by
 have kf:=find_z t w h1 h2;unfold KZ at kf
 have HE:=Lib.hid (show ∀w',Below w.heap.size w w'→TkIn w B g gt gr v S mac n t (.returned (.tuple #[.bool false,.int .i64 14])) w' from fun w' hb=>by
  refine⟨by unfold tkF tkE;rw[h1,h2];rfl,⟨v,?_,Or.inl rfl⟩,kept_below _ hb⟩;have:=h.below hb;unfold tkT tkN tkE;rw[h1,h2];exact this)
 clear h h1 h2
 go_enter Tryz.func48,Tryz.ntmps48
 go_wp2_with fail
 (with_reducible refine(kf).mono ?_);rintro e1 W1 ⟨rfl,hb1⟩
 have HF:=Lib.hid (HE.out _ (hb1.alloc hb1.size (.cells #[.nilFunc,.nilFunc,.nilFunc,.nilFunc] 172)));clear kf hb1
 go_wp2_with fail
 go_ret2
 exact HF.out
theorem gram_all (w:World) (B g gt gr:Nat) (v:Value) (S:Tb) (mac:Int) (n:Nat) (t:ByteArray) (h:GaA w B g gt gr v S mac n) (hok:Ok S) (hst:S.st.length≤90000) (hR:S.R=256) (hs:t.size≤1099511627776):
 Calls Tryz.prog 154 #[.pointer (some ⟨g,0,none⟩),.string t] w fun e w'=>GrmIn w B g gt gr v S mac n t e w':=by
 by_cases h0:MpC.mdE t=0
 ·by_cases hm:0≤mac∧(MpC.mdP t).mac≠mac
  ·exact gram_none w B g gt gr v S mac n t h hs h0 hm
  ·exact gram_put w B g gt gr v S mac n t h hok hst hR hs h0 hm
 ·exact gram_bad w B g gt gr v S mac n t h hs h0
end Go.Proofs.YtdbpkhnmhddmmaaGreatDoor.BuP
namespace Go.Proofs.YtdbpkhnmhddmmaaGreatDoor.BuQ
open Go Go.RowKit Q Mem Rg Ap St Tab TmA TbM TbO TbP BuA BuI BuN BuO BuP
set_option maxRecDepth 100000
set_option maxHeartbeats 3200000 in
theorem take_m (w:World) (B g gt gr:Nat) (v:Value) (S:Tb) (mac:Int) (n:Nat) (t:ByteArray) (h:GaA w B g gt gr v S mac n) (hok:Ok S) (hst:S.st.length≤90000) (hR:S.R=256) (hs:t.size≤1099511627776) (hn:n≤1000000) (h1:isM t=true):
 Calls Tryz.prog 48 #[.pointer (some ⟨g,0,none⟩),.string t] w fun e w'=>TkIn w B g gt gr v S mac n t e w':=by
 have kf:=find_m t w h1;unfold KM at kf;have HH:=Lib.hid h;have HK:=Lib.hid (And.intro hok (And.intro hst (And.intro hR h1)));clear h hok hst hR h1
 go_enter Tryz.func48,Tryz.ntmps48
 go_wp2_with fail
 (with_reducible refine(kf).mono ?_);rintro e1 W1 ⟨rfl,hb1⟩
 have HB:=Lib.hid (hb1.alloc hb1.size (.cells KM 172));have kg:=gram_all (W1.alloc (.cells KM 172)) B g gt gr v S mac n t (HH.out.below HB.out) HK.out.1 HK.out.2.1 HK.out.2.2.1 hs;have y3:=Blk.cell (Blk.new W1 172 KM) 3 (v:= .func (.func 154) #[] #[]) rfl;unfold KM at kg y3;clear kf hb1
 go_wp2_with fail
 trace_state
 refine kg.mono ?_;rintro e2 W2 ⟨rfl,⟨v2,hg2,hf2⟩,hk2⟩
 have hz:grmE S.R mac t=0∨((grmE S.R mac t==0)=false∧grmE S.R mac t≠0):=by
  by_cases h:grmE S.R mac t=0
  ·exact Or.inl h
  ·exact Or.inr ⟨beq_eq_false_iff_ne.2 h,h⟩
 have hE:tkE S.R mac t=grmE S.R mac t:=by unfold tkE;rw[HK.out.2.2.2];rfl
 have hF:tkF S.R mac t=grmF S.R mac t:=by unfold tkF;rw[HK.out.2.2.2];rfl
 have hTT:tkT S mac t=grmT S mac t:=by unfold tkT;rw[HK.out.2.2.2];rfl
 have hfar:far w v v2:=hf2.imp id (fun⟨j,h1,h2⟩=>⟨j,h1,Nat.le_trans HB.out.size h2⟩);have hkk:Kept (foot gt gr v) w W2:=Kept.pre HB.out hk2;obtain⟨E,hEE⟩: ∃E,grmE S.R mac t=E:=⟨_,rfl⟩;obtain⟨F,hFF⟩: ∃F,grmF S.R mac t=F:=⟨_,rfl⟩;rw[hEE]at hz hE ⊢;rw[hFF]at hF ⊢;have HA:=Lib.hid (And.intro hE (And.intro hF hTT));have HG2:=Lib.hid hg2;have HKK:=Lib.hid (And.intro hfar hkk);have c3:=Blk.cell hg2.box 3 (v:= .int .i64 (n:Int)) rfl;have f3:=Blk.frozen hg2.box 3;have n0:(0:Int)≤(n:Int):=Int.natCast_nonneg _;have n1:(n:Int)≤1000000:=by omega
 clear hg2 hf2 hk2 hE hF hTT hfar hkk kg hEE hFF y3;rcases hz with h0|⟨h1,h2⟩
 ·subst h0
  go_wp2_with fail
  go_ret2
  have hn1:tkN S.R mac t n=n+1:=by unfold tkN;rw[HA.out.1,if_pos rfl]
  have hset:Kept (fun i=>i=g) W2 (W2.setCell ⟨g,3,none⟩ (.int .i64 ((n:Int)+1))):=kept_set rfl;have hgt:=HG2.out.t.kept hset (fun i hi e=>HG2.out.ap (e▸hi));refine⟨by rw[HA.out.1,HA.out.2.1];rfl,⟨v2,?_,HKK.out.1⟩,(HKK.out.2.mono (fun i _ h=>Or.inr h)).trans hset (fun i _ e=>Or.inl e)⟩;rw[HA.out.2.2,hn1];exact⟨⟨Blk.set_ HG2.out.box 3 _,hgt,HG2.out.gb⟩,HG2.out.ap⟩
 ·have hn0:tkN S.R mac t n=n:=by unfold tkN;rw[HA.out.1,if_neg h2]
  go_wp2_with fail
  go_ret2
  exact⟨by rw[HA.out.1,HA.out.2.1];rfl,⟨v2,by rw[HA.out.2.2,hn0];exact HG2.out,HKK.out.1⟩,HKK.out.2.mono (fun i _ h=>Or.inr h)⟩
end Go.Proofs.YtdbpkhnmhddmmaaGreatDoor.BuQ
namespace Go.Proofs.YtdbpkhnmhddmmaaGreatDoor.BuR
open Go Go.RowKit Q Mem Rg Ap St Tab TmA TbM TbO TbP BuA BuI BuN BuO BuP
set_option maxRecDepth 100000
set_option maxHeartbeats 3200000 in
theorem take_f (w:World) (B g gt gr:Nat) (v:Value) (S:Tb) (mac:Int) (n:Nat) (t:ByteArray) (h:GaA w B g gt gr v S mac n) (hok:Ok S) (hst:S.st.length≤90000) (hR:S.R=256) (hs:t.size≤1099511627776) (hn:n≤1000000) (h1:isM t=false) (h12:isF t=true) (hT:Tab 4 w):
 Calls Tryz.prog 48 #[.pointer (some ⟨g,0,none⟩),.string t] w fun e w'=>TkIn w B g gt gr v S mac n t e w':=by
 have kf:=find_f t w h1 h12;unfold KF at kf;have HH:=Lib.hid h;have HK:=Lib.hid (And.intro hok (And.intro hst (And.intro hR (And.intro h1 h12))));have HTB:=Lib.hid hT;clear h hok hst hR h1 h12 hT
 go_enter Tryz.func48,Tryz.ntmps48
 go_wp2_with fail
 (with_reducible refine(kf).mono ?_);rintro e1 W1 ⟨rfl,hb1⟩
 have HB:=Lib.hid (hb1.alloc hb1.size (.cells KF 172));have kg:=column_any (W1.alloc (.cells KF 172)) B g gt gr v S mac n t (HTB.out.be HB.out) (HH.out.below HB.out) HK.out.1 hs;have y3:=Blk.cell (Blk.new W1 172 KF) 3 (v:= .func (.func 158) #[] #[]) rfl;unfold KF at kg y3;clear kf hb1
 go_wp2_with fail
 trace_state
 refine kg.mono ?_;rintro e2 W2 ⟨rfl,hg2,hk2⟩
 have hz:colE S.R t=0∨((colE S.R t==0)=false∧colE S.R t≠0):=by
  by_cases h:colE S.R t=0
  ·exact Or.inl h
  ·exact Or.inr ⟨beq_eq_false_iff_ne.2 h,h⟩
 have hE:tkE S.R mac t=colE S.R t:=by unfold tkE;rw[HK.out.2.2.2.1,HK.out.2.2.2.2];rfl
 have hF:tkF S.R mac t=colF S.R t:=by unfold tkF;rw[HK.out.2.2.2.1,HK.out.2.2.2.2];rfl
 have hTT:tkT S mac t=colT S t:=by unfold tkT;rw[HK.out.2.2.2.1,HK.out.2.2.2.2];rfl
 have hfar:far w v v:=Or.inl rfl;have hkk:Kept (foot gt gr v) w W2:=Kept.pre HB.out hk2;obtain⟨E,hEE⟩: ∃E,colE S.R t=E:=⟨_,rfl⟩;obtain⟨F,hFF⟩: ∃F,colF S.R t=F:=⟨_,rfl⟩;rw[hEE]at hz hE ⊢;rw[hFF]at hF ⊢;have HA:=Lib.hid (And.intro hE (And.intro hF hTT));have HG2:=Lib.hid hg2;have HKK:=Lib.hid (And.intro hfar hkk);have c3:=Blk.cell hg2.box 3 (v:= .int .i64 (n:Int)) rfl;have f3:=Blk.frozen hg2.box 3;have n0:(0:Int)≤(n:Int):=Int.natCast_nonneg _;have n1:(n:Int)≤1000000:=by omega
 clear hg2 hk2 hE hF hTT hfar hkk kg hEE hFF y3;rcases hz with h0|⟨h1,h2⟩
 ·subst h0
  go_wp2_with fail
  go_ret2
  have hn1:tkN S.R mac t n=n+1:=by unfold tkN;rw[HA.out.1,if_pos rfl]
  have hset:Kept (fun i=>i=g) W2 (W2.setCell ⟨g,3,none⟩ (.int .i64 ((n:Int)+1))):=kept_set rfl;have hgt:=HG2.out.t.kept hset (fun i hi e=>HG2.out.ap (e▸hi));refine⟨by rw[HA.out.1,HA.out.2.1];rfl,⟨v,?_,HKK.out.1⟩,(HKK.out.2.mono (fun i _ h=>Or.inr h)).trans hset (fun i _ e=>Or.inl e)⟩;rw[HA.out.2.2,hn1];exact⟨⟨Blk.set_ HG2.out.box 3 _,hgt,HG2.out.gb⟩,HG2.out.ap⟩
 ·have hn0:tkN S.R mac t n=n:=by unfold tkN;rw[HA.out.1,if_neg h2]
  go_wp2_with fail
  go_ret2
  exact⟨by rw[HA.out.1,HA.out.2.1];rfl,⟨v,by rw[HA.out.2.2,hn0];exact HG2.out,HKK.out.1⟩,HKK.out.2.mono (fun i _ h=>Or.inr h)⟩
end Go.Proofs.YtdbpkhnmhddmmaaGreatDoor.BuR
namespace Go.Proofs.YtdbpkhnmhddmmaaGreatDoor.BuS
open Go Go.RowKit Q Mem Rg Ap St Tab TmA TbM TbO TbP BuA BuI BuN BuO BuP
theorem tk_ok {S:Tb} (h:Ok S) (hst:S.st.length≤90000) (mac:Int) (t:ByteArray):Ok (tkT S mac t)∧(tkT S mac t).st.length≤S.st.length+2∧(tkT S mac t).R=S.R:=by
 unfold tkT
 split
 ·unfold grmT
  split
  ·exact⟨h,by omega,rfl⟩
  ·have h1:=LaB.put_ok h (by omega) (MpC.mdP t).times.at_ (MpC.mdP t).text
   split
   ·have h2:=LaB.put_ok h1.1 (by omega) (endN t:Int) (zz (usedN S.R t*S.R-endN t))
    have h3:=LaB.pad_ok h2.1 (191-(usedN S.R t:Int));exact⟨h3.1,by rw[h3.2.1];omega,by rw[h3.2.2,put_R,put_R]⟩
   ·exact⟨h1.1,by omega,by rw[put_R]⟩
 ·split
  ·unfold colT
   split
   ·exact⟨h,by omega,rfl⟩
   ·have h1:=LaB.par_ok h (FcC.fdP t).number (FcC.fdP t).text
    have h2:=LaB.pad_ok h1.1 (FcC.fdP t).pad;exact⟨h2.1,by rw[h2.2.1,h1.2.1];omega,by rw[h2.2.2,h1.2.2]⟩
  ·exact⟨h,by omega,rfl⟩
theorem take_any (w:World) (B g gt gr:Nat) (v:Value) (S:Tb) (mac:Int) (n:Nat) (t:ByteArray) (h:GaA w B g gt gr v S mac n) (hok:Ok S) (hst:S.st.length≤90000) (hR:S.R=256) (hs:t.size≤1099511627776) (hn:n≤1000000) (hT:Tab 4 w):
 Calls Tryz.prog 48 #[.pointer (some ⟨g,0,none⟩),.string t] w fun e w'=>TkIn w B g gt gr v S mac n t e w':=by
 cases h1:isM t with
 |true=>exact BuQ.take_m w B g gt gr v S mac n t h hok hst hR hs hn h1
 |false=>
  cases h2:isF t with
  |true=>exact BuR.take_f w B g gt gr v S mac n t h hok hst hR hs hn h1 h2 hT
  |false=>exact take_z w B g gt gr v S mac n t h h1 h2
end Go.Proofs.YtdbpkhnmhddmmaaGreatDoor.BuS
