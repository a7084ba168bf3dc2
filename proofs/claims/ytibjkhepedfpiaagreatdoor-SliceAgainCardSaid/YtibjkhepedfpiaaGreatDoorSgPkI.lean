import Derived.Test.YtibjkhepedfpiaaGreatDoorSgPkH
import Derived.Test.YtibjkhepedfpiaaGreatDoorSgPkN
import Derived.Test.YtibjkhepedfpiaaGreatDoorSgOpS
import Derived.Test.YtibjkhepedfpiaaGreatDoorSgApC
namespace Go.Proofs.YtibjkhepedfpiaaGreatDoor.SlA
open Go Go.RowKit Q Mem Rg Ap St CrB CrC CrD BiW BiG SeEq SeI SeC SeD TmA DgC DgM DgN MpA MpS
structure Pc where
 n:Int
 table:Nat
 b:Nat
 gram:Bool
 text:ByteArray
def Pc.vals (p:Pc):Array Value:= #[.int .i64 p.n,.int .u8 (p.table:Int),.int .u8 (p.b:Int),.bool p.gram,.string p.text]
def Pc.len (p:Pc):Nat:=(max 0 (min p.n 4000)).toNat
def bodyL (b k:Nat):List UInt8:=(List.range k).map fun i=>UInt8.ofNat ((b+i%5)%256)
theorem body_len (b k:Nat):(bodyL b k).length=k:=by simp[bodyL]
theorem body_succ (b k:Nat):bodyL b (k+1)=bodyL b k++[UInt8.ofNat ((b+k%5)%256)]:=by simp[bodyL,List.range_succ]
def gramP (b k:Nat):Mp:=⟨3,⟨9,false,false,(b:Int)⟩,mkD ⟨#[97,98,99,100]⟩ ⟨#[101,102,103,104]⟩ 17 (str (bodyL b k))⟩
theorem gramP_ok (b k:Nat) (hb:b<256) (hk:k≤4000):(gramP b k).chk=0:=by
 have h:=(mk_ok ⟨#[97,98,99,100]⟩ ⟨#[101,102,103,104]⟩ (str (bodyL b k)) 17 rfl rfl (by rw[←bl_len,bl_str,body_len];omega)).1;unfold Mp.chk;rw[if_pos]
 ·exact h
 ·unfold gramP Mp.ok Ti.ok
  refine⟨⟨?_,?_⟩,⟨⟨?_,?_⟩,⟨?_,?_⟩⟩⟩<;>dsimp only<;>omega
def tabL (t k:Nat):List UInt8:=[UInt8.ofNat t,UInt8.ofNat (176+(k+9)/256),UInt8.ofNat ((k+9)%256),0,1,193,0,0]
def Pc.bytes (p:Pc):ByteArray:=if p.text.size=0 then(if p.gram then bytesS (gramP p.b p.len).sec else str (sealL (tabL p.table p.len++bodyL p.b p.len)))else p.text
set_option maxRecDepth 100000
set_option maxHeartbeats 3200000 in
theorem made_any (p:Pc) (w:World) (ht:p.table<256) (hb:p.b<256):Calls Tryz.prog 28 #[.agg p.vals] w fun e w'=>e= .returned (.string p.bytes)∧Below w.heap.size w w':=by
 obtain⟨n,t,b,g,x⟩:=p;have HY:=Lib.hid (show Pc.bytes ⟨n,t,b,g,x⟩=if x.size=0 then(if g then bytesS (gramP b (Pc.len ⟨n,t,b,g,x⟩)).sec else str (sealL (tabL t (Pc.len ⟨n,t,b,g,x⟩)++bodyL b (Pc.len ⟨n,t,b,g,x⟩))))else x from rfl);unfold Pc.vals;dsimp only at*;have hB0:=Blk.new w 79 #[.int .i64 n,.int .u8 (t:Int),.int .u8 (b:Int),.bool g,.string x];have c0:=Blk.cell (hB0) 0 (v:= .int .i64 n) rfl;have c1:=Blk.cell (hB0) 1 (v:= .int .u8 (t:Int)) rfl;have c2:=Blk.cell (hB0) 2 (v:= .int .u8 (b:Int)) rfl;have c3:=Blk.cell (hB0) 3 (v:= .bool g) rfl;have c4:=Blk.cell (hB0) 4 (v:= .string x) rfl;have HB0:=Lib.hid hB0;by_cases hx:x.size=0
 ·have t0:x.toList.isEmpty=true:=by rw[isEmpty_iff];simpa using hx
  obtain⟨k,hk⟩: ∃k,(max 0 (min n 4000)).toNat=k:=⟨_,rfl⟩;obtain⟨m,hm⟩: ∃m,min n 4000=m:=⟨_,rfl⟩
  have hmn: ∀(ts:Array TypeId) (ty:TypeId) (V:World),(Builtin.min_ ts ty #[.int .i64 n,.int .i64 4000]).run Tryz.prog V= .ok (.int .i64 m) V:=fun ts ty V=>by
   rw[run_min_int2]
   congr 2
   split<;>omega
  have hmx: ∀(ts:Array TypeId) (ty:TypeId) (V:World),(Builtin.max_ ts ty #[.int .i64 0,.int .i64 m]).run Tryz.prog V= .ok (.int .i64 (k:Int)) V:=fun ts ty V=>by
   rw[run_max_int2]
   congr 2
   split<;>omega
  have hk4:k≤4000:=by omega
  have hln:Pc.len ⟨n,t,b,g,x⟩=k:=hk;have HZ:=Lib.hid (HY.out.trans (by rw[if_pos hx,hln]));have hmk:=fun V=>mk_bytes k (by omega) V;clear hk hm hx hB0 HY hln
  go_enter Tryz.func28,Tryz.ntmps28
  go_wp2_with fail
  refine wp_gen (fun W=>Blk W w.heap.size 79 #[.int .i64 n,.int .u8 (t:Int),.int .u8 (b:Int),.bool g,.string x]∧Blk W (w.heap.size+1) 5 (rowB [] k)∧Below w.heap.size w W) ⟨Blk.alloc HB0.out _,Blk.newAt _ _ _ (by simp),((Below.refl _ _).alloc (Nat.le_refl _) _).alloc (by simp) _⟩ ?_;rintro W0 ⟨h0,h1,h2⟩;clear c0 c1 c2 c3 c4 HB0 hmn hmx hmk
  go_loopw [4] (fun i wr=> ∃q:Nat,q≤k∧i= .int .i64 q∧Hid (Blk wr w.heap.size 79 #[.int .i64 n,.int .u8 (t:Int),.int .u8 (b:Int),.bool g,.string x]∧Blk wr (w.heap.size+1) 5 (rowB (bodyL b q) (k-q))∧Below w.heap.size w wr)) (fun i _=>k-(intOf i).toNat)
  case atStart=>exact⟨0,by omega,rfl,Lib.hid ⟨h0,h1,h2⟩⟩
  case round=>
   obtain⟨q,hq,rfl,hI⟩:=hrel;obtain⟨hP,hR,hE⟩:=hI.out;have c0:=Blk.cell (hP) 0 (v:= .int .i64 n) rfl;have c1:=Blk.cell (hP) 1 (v:= .int .u8 (t:Int)) rfl;have c2:=Blk.cell (hP) 2 (v:= .int .u8 (b:Int)) rfl;have c3:=Blk.cell (hP) 3 (v:= .bool g) rfl;have c4:=Blk.cell (hP) 4 (v:= .string x) rfl;clear h0 h1 h2;by_cases hqk:q<k
   ·have t1:decide (q<k)=true:=decide_eq_true hqk
    obtain⟨m,hmk⟩: ∃m,k-q=m+1:=⟨k-q-1,by omega⟩;rw[hmk]at hR;have r1:=Blk.cell hR q (v:= .int .u8 0) (by have:=rowB_at (bodyL b q) m;rw[body_len]at this;exact this);have f1:=Blk.frozen hR q;have h1:=hR.set_ q (.int .u8 (((b:Int)+(q:Int)%5)%256));have h2:=rowB_set (bodyL b q) m (UInt8.ofNat ((b+q%5)%256));rw[body_len,←body_succ]at h2
    have h3:u8v (UInt8.ofNat ((b+q%5)%256))= .int .u8 (((b:Int)+(q:Int)%5)%256):=by
     unfold u8v
     congr 1
     rw[UInt8.toNat_ofNat'];omega
    rw[h3]at h2;rw[h2,show m=k-(q+1) by omega]at h1;have hE2:=hE.setCell (p:=⟨w.heap.size+1,q,none⟩) (Nat.le_succ _) (.int .u8 (((b:Int)+(q:Int)%5)%256));have hP2:=Blk.far hP (p:=⟨w.heap.size+1,q,none⟩) (by show w.heap.size≠w.heap.size+1;omega) (.int .u8 (((b:Int)+(q:Int)%5)%256));have HX:=Lib.hid (And.intro hP2 (And.intro h1 hE2));clear h1 h2 h3 hE2 hP2 hP hE hI hmk
    go_wp2_with fail
    go_roundw
    case rel=>exact⟨q+1,by omega,by go_num,HX⟩
    case measure=>simp[intOf];omega
   ·obtain rfl:q=k:=by omega
    have t1:decide (q<q)=false:=by simp
    rw[Nat.sub_self]at hR;have hc:=conv_row (l:=bodyL b q) (n:=q) hR (body_len b q) q;have hbz:(str (bodyL b q)).size≤4060:=by rw[←bl_len,bl_str,body_len];omega
    cases g with
    |true=>
     have km:=fun V=>make_any ⟨#[97,98,99,100]⟩ ⟨#[101,102,103,104]⟩ (str (bodyL b q)) 17 V (by decide) (by decide) hbz (by decide);have kr:=fun V=>rmbytes_any (gramP b q) V (gramP_ok b q hb hk4);unfold Mp.vals gramP at kr;dsimp only at kr;obtain⟨G,hG⟩: ∃G,mkD ⟨#[97,98,99,100]⟩ ⟨#[101,102,103,104]⟩ 17 (str (bodyL b q))=G:=⟨_,rfl⟩;have HG:=Lib.hid (show bytesS (gramP b q).sec=bytesS (Mp.sec ⟨3,⟨9,false,false,(b:Int)⟩,G⟩)from by rw[←hG];rfl);rw[hG]at km kr;clear hG hbz hR hI
     go_wp2_with fail
     (with_reducible refine(km _).mono ?_);rintro e1 W1 ⟨rfl,hb1⟩
     have hP1:=Blk.below hP hb1 hP.lt;have d0:=Blk.cell (hP1) 0 (v:= .int .i64 n) rfl;have d1:=Blk.cell (hP1) 1 (v:= .int .u8 (t:Int)) rfl;have d2:=Blk.cell (hP1) 2 (v:= .int .u8 (b:Int)) rfl;have d3:=Blk.cell (hP1) 3 (v:= .bool true) rfl;have d4:=Blk.cell (hP1) 4 (v:= .string x) rfl;have hE1:=hE.trans (hb1.mono hE.size);clear hP1 hb1 km
     go_wp2_with fail
     (with_reducible refine(kr _).mono ?_);rintro e2 W2 ⟨rfl,hb2⟩
     have hE3:=hE1.trans (hb2.mono hE1.size)
     go_wp2_with fail
     go_ret;exact⟨by rw[HZ.out,HG.out];rfl,hE3⟩
    |false=>
     have e1:(176+((q:Int)+9)/256).toNat=176+(q+9)/256:=by omega
     have e2:(((q:Int)+9)%256).toNat=(q+9)%256:=by omega
     have hso:strOfNums [(t:Int),176+((q:Int)+9)/256,((q:Int)+9)%256,0,1,193,0,0]=str (tabL t q):=by
      rw[nums_str];simp only[List.map_cons,List.map_nil,e1,e2,Int.toNat_natCast];rfl
     have hcv:=conv_new wr [(t:Int),176+((q:Int)+9)/256,((q:Int)+9)%256,0,1,193,0,0] 8 wr.heap.size #[.int .u8 (t:Int),.int .u8 (176+((q:Int)+9)/256),.int .u8 (((q:Int)+9)%256),.int .u8 0,.int .u8 1,.int .u8 193,.int .u8 0,.int .u8 0] rfl rfl rfl;rw[hso]at hcv;have hc2:=conv_row (l:=bodyL b q) (n:=q) (Blk.alloc hR (.cells #[.int .u8 (t:Int),.int .u8 (176+((q:Int)+9)/256),.int .u8 (((q:Int)+9)%256),.int .u8 0,.int .u8 1,.int .u8 193,.int .u8 0,.int .u8 0] 5)) (body_len b q) q;have hts:(str (tabL t q)).size=8:=rfl;have ka:=fun U=>add_at (str (tabL t q)) (str (bodyL b q)) (by rw[hts];omega) U;rw[str_app]at ka;have ks:=fun V=>rseal_any (str (tabL t q++bodyL b q)) V (by rw[←bl_len,bl_str,List.length_append,body_len];show 8+q≤_;omega);rw[bl_str]at ks;have hE2:=hE.alloc hE.size (.cells #[.int .u8 (t:Int),.int .u8 (176+((q:Int)+9)/256),.int .u8 (((q:Int)+9)%256),.int .u8 0,.int .u8 1,.int .u8 193,.int .u8 0,.int .u8 0] 5);clear hI e1 e2 hso hts hc hbz hR
     go_wp2_with fail
     (with_reducible refine(ks _).mono ?_);rintro e1 W1 ⟨rfl,hb1⟩
     have hE3:=hE2.trans (hb1.mono hE2.size)
     go_wp2_with fail
     go_ret;exact⟨by rw[HZ.out];rfl,hE3⟩
 ·have t0:x.toList.isEmpty=false:=by rw[isEmpty_iff];simpa using hx
  have hE:=(Below.refl w.heap.size w).alloc (Nat.le_refl _) (.cells #[.int .i64 n,.int .u8 (t:Int),.int .u8 (b:Int),.bool g,.string x] 79);clear hB0
  go_enter Tryz.func28,Tryz.ntmps28
  go_wp2_with fail
  go_ret;exact⟨by rw[HY.out,if_neg hx];rfl,hE⟩
end Go.Proofs.YtibjkhepedfpiaaGreatDoor.SlA
namespace Go.Proofs.YtibjkhepedfpiaaGreatDoor.SlB
open Go Go.RowKit Q Mem Rg Ap St CrB SlA
def enPc (p:Pc):List Value:=[.int .i64 p.n,.int .u8 (p.table:Int),.int .u8 (p.b:Int),.bool p.gram,.string p.text]
theorem elemS:Elem Tryz.prog 34 9 1 16:=elem_of Tryz.underlying34 (z:= .string ByteArray.empty) (by kernel_rfl) rfl (by decide)
def PcOk (p:Pc):Prop:=p.table<256∧p.b<256
theorem flat_s (L:List Pc) (q:Nat) (p:Pc) (h:L[q]? =some p):flat enS ((L.map Pc.bytes).take (q+1))=flat enS ((L.map Pc.bytes).take q)++[.string p.bytes]:=by
 rw[flat_snoc (x:=p.bytes) (by rw[List.getElem?_map,h];rfl)];rfl
set_option maxRecDepth 100000
set_option maxHeartbeats 1600000 in
theorem texts_any (a:Option Addr) (n c:Nat) (L:List Pc) (w:World) (hn:L.length=n) (hl:n≤100000) (hL:Seq enPc 5 w a L) (hok: ∀p∈L,PcOk p):
 Calls Tryz.prog 29 #[.slice a n c] w fun e w'=> ∃v,e= .returned v∧w'.ownsRow w.heap.size 9 1 v n (flat enS (L.map Pc.bytes))∧Below w.heap.size w w':=by
 have HL:=Lib.hid hL;have HN:=Lib.hid hn;have HO:=Lib.hid hok;clear hL hn hok
 go_enter Tryz.func29,Tryz.ntmps29
 go_wp2_with fail
 go_loopw [3,4] (fun out i wr=> ∃q:Nat,q≤n∧i= .int .i64 q∧wr.ownsRow w.heap.size 9 1 out q (flat enS ((L.map Pc.bytes).take q))∧Below w.heap.size w wr) (fun _ i _=>n-(intOf i).toNat)
 case atStart=>exact⟨0,by omega,rfl,World.ownsRow_nil _ _ _ _,Below.refl _ _⟩
 case round=>
  obtain⟨q,hq,rfl,hown,hb⟩:=hrel;by_cases hqn:q<n
  ·have t0:decide (q<n)=true:=decide_eq_true hqn
   obtain⟨p,hp⟩: ∃p,L[q]? =some p:=⟨_,List.getElem?_eq_getElem (by rw[HN.out];exact hqn)⟩;obtain⟨b0,o0,rfl,hlt,hc⟩:=(HL.out.below (Nat.le_refl _) hb) q p hp;have k0:(0:Int)≤(q:Int):=Int.natCast_nonneg _;have k1:(q:Int)<(n:Int):=by omega
   have hfl:=flat_s L q p hp;obtain⟨h1,h2⟩:=HO.out p (List.mem_of_getElem? hp);have km:=fun V=>made_any p V h1 h2;obtain⟨X,hX⟩: ∃X,p.bytes=X:=⟨_,rfl⟩;rw[hX]at km hfl;unfold Pc.vals at km;have c0:=hc 0 _ rfl;have c1:=hc 1 _ rfl;have c2:=hc 2 _ rfl;have c3:=hc 3 _ rfl;have c4:=hc 4 _ rfl;rw[off_eq]at c0 c1 c2 c3 c4;rw[Nat.add_zero]at c0;have hbs:=hb.size;clear hc hp hX h1 h2 hlt
   go_wp2_with fail
   (with_reducible refine(km _).mono ?_);rintro e1 W1 ⟨rfl,hb1⟩
   have hb2:=hb.trans (hb1.mono hbs);have hb9:=Blk.new W1 9 #[.string X];have hown1:=own_below hown hb1;have hown2:=own_below hown1 ((Below.refl W1.heap.size W1).alloc (Nat.le_refl _) (.cells #[.string X] 9));have hsz2:w.heap.size≤(W1.alloc (.cells #[.string X] 9)).heap.size:=by have:=hb2.size;simp;omega
   have hb3:=hb2.alloc hb2.size (.cells #[.string X] 9);clear km hown hown1 hb1 hb2 c0 c1 c2 c3 c4
   go_wp2_with (at_builtin;refine wpList_app rfl _ _ rfl elemS rfl hown2 rfl rfl (blk_news hb9) (by simp[Value.oneCell']) (by omega) (by unfold maxLen;omega) hsz2 ?_)
   intro v9 w8 hown9 hb8;have hb4:=hb3.trans hb8;clear hown2 hb9 hb3 hb8
   go_wp2_with fail
   go_roundw
   case rel=>exact⟨q+1,by omega,by go_num,by rw[hfl];exact hown9,hb4⟩
   case measure=>simp[intOf];omega
  ·obtain rfl:q=n:=by omega
   have t0:decide (q<q)=false:=by simp
   have HF:=Lib.hid (show(L.map Pc.bytes).take q=L.map Pc.bytes from List.take_of_length_le (by rw[List.length_map,HN.out];exact Nat.le_refl _))
   go_wp2_with fail
   go_ret;rw[HF.out]at hown;exact⟨_,rfl,hown,hb⟩
end Go.Proofs.YtibjkhepedfpiaaGreatDoor.SlB
namespace Go.Proofs.YtibjkhepedfpiaaGreatDoor.SlC
open Go Go.RowKit Q Mem Rg Ap St CrB SlA SlB
structure Rn where
 pid:Int
 at_:Int
 la:Option Addr
 lc:Nat
 l:List Pc
def enRn (r:Rn):List Value:=[.int .i64 r.pid,.int .i64 r.at_,.slice r.la r.l.length r.lc]
def fewR (r:Rn):Prop:=r.l.length≤8∧ ¬(300<r.at_∧r.at_<1048570)∧ ∀p∈r.l,p.text.size≤5000
instance (r:Rn):Decidable (fewR r):=by unfold fewR;infer_instance
def fewB (L:List Rn):Bool:=L.all (fun r=>decide (fewR r))&&decide (L.length≤8)
theorem few_no {L:List Rn} {k:Nat} {r:Rn} (h:L[k]? =some r) (hf: ¬fewR r):fewB L=false:=by
 unfold fewB
 have:L.all (fun r=>decide (fewR r))=false:=by
  rw[List.all_eq_false];exact⟨r,List.mem_of_getElem? h,by simpa using hf⟩
 rw[this,Bool.false_and]
theorem few_yes {L:List Rn} (h: ∀(j:Nat) (r:Rn),L[j]? =some r→fewR r):fewB L=decide (L.length≤8):=by
 unfold fewB
 have:L.all (fun r=>decide (fewR r))=true:=by
  rw[List.all_eq_true];intro r hr;obtain⟨j,hj,hj2⟩:=List.getElem_of_mem hr;exact decide_eq_true (h j r (by rw[List.getElem?_eq_getElem hj,hj2]))
 rw[this,Bool.true_and]
set_option maxRecDepth 100000
set_option maxHeartbeats 3200000 in
theorem few_any (a:Option Addr) (n c:Nat) (L:List Rn) (w:World) (hn:L.length=n) (hl:n≤9223372036854775807) (hL:Seq enRn 3 w a L) (hP: ∀r∈L,Seq enPc 5 w r.la r.l∧r.l.length≤9223372036854775807):
 Calls Tryz.prog 6 #[.slice a n c] w fun e w'=>e= .returned (.bool (fewB L))∧w=w':=by
 have HL:=Lib.hid hL;have HN:=Lib.hid hn;have HP:=Lib.hid hP;obtain⟨F,hF⟩: ∃F,fewB L=F:=⟨_,rfl⟩;have HF:=Lib.hid hF;rw[hF];clear hL hn hP hF
 go_enter Tryz.func6,Tryz.ntmps6
 go_wp2_with fail
 go_loopw [3] (fun i wr=> ∃k:Nat,k≤n∧i= .int .i64 k∧w=wr∧Hid (∀(j:Nat) (r:Rn),j<k→L[j]? =some r→fewR r)) (fun i _=>n-(intOf i).toNat)
 case atStart=>exact⟨0,by omega,rfl,rfl,Lib.hid (fun j r h=>by omega)⟩
 case round=>
  obtain⟨k,hk,rfl,rfl,hK⟩:=hrel;by_cases hkn:k<n
  ·have t0:decide (k<n)=true:=decide_eq_true hkn
   obtain⟨r,hr⟩: ∃r,L[k]? =some r:=⟨_,List.getElem?_eq_getElem (by rw[HN.out];exact hkn)⟩;obtain⟨b0,o0,rfl,hlt,hc⟩:=HL.out k r hr;have HR:=Lib.hid hr;have HQ:=Lib.hid (HP.out r (List.mem_of_getElem? hr));have k0:(0:Int)≤(k:Int):=Int.natCast_nonneg _;have k1:(k:Int)<(n:Int):=by omega
   have c1:=hc 1 _ rfl;have c2:=hc 2 _ rfl;rw[off_eq]at c1 c2;obtain⟨pid,at_,la,lc,l⟩:=r;dsimp only at c1 c2;obtain⟨M,hM⟩: ∃M,l.length=M:=⟨_,rfl⟩;rw[hM]at c2;have HM:=Lib.hid hM;clear hc hr hM hlt;by_cases h8:M≤8
   ·have t1:decide (8<M)=false:=decide_eq_false (by omega)
    have t2:decide ((8:Int)<(M:Int))=false:=decide_eq_false (by omega);by_cases ha:300<at_∧at_<1048570
    ·have t3:decide (300<at_)=true:=decide_eq_true ha.1
     have t4:decide (at_<1048570)=true:=decide_eq_true ha.2;have HE:=Lib.hid (few_no HR.out (fun h=>h.2.1 ha));clear ha
     go_wp2_with fail
     go_ret;exact⟨by rw[←HF.out,HE.out];rfl,rfl⟩
    ·have HA:=Lib.hid ha
     by_cases h3:300<at_
     ·have t3:decide (300<at_)=true:=decide_eq_true h3
      have t4:decide (at_<1048570)=false:=decide_eq_false (fun h=>ha ⟨h3,h⟩);clear ha h3
      go_wp2_with fail
      go_loopw [4] (fun i wr=> ∃q:Nat,q≤M∧i= .int .i64 q∧w=wr∧Hid (∀(j:Nat) (p:Pc),j<q→l[j]? =some p→p.text.size≤5000)) (fun i _=>M-(intOf i).toNat)
      case atStart=>exact⟨0,by omega,rfl,rfl,Lib.hid (fun j p h=>by omega)⟩
      case round=>
       obtain⟨q,hq,rfl,rfl,hQ⟩:=hrel;by_cases hqm:q<M
       ·have t5:decide (q<M)=true:=decide_eq_true hqm
        obtain⟨p,hp⟩: ∃p,l[q]? =some p:=⟨_,List.getElem?_eq_getElem (by rw[HM.out];exact hqm)⟩;obtain⟨b9,o9,hla,hlt,hc⟩:=HQ.out.1 q p hp;subst hla;have q0:(0:Int)≤(q:Int):=Int.natCast_nonneg _;have q1:(q:Int)<(M:Int):=by omega
        have d4:=hc 4 _ rfl;rw[off_eq]at d4;have HPP:=Lib.hid hp;clear hc hlt hp;by_cases h5:p.text.size≤5000
        ·have t6:decide (5000<p.text.size)=false:=decide_eq_false (by omega)
         have t7:decide ((5000:Int)<(p.text.size:Int))=false:=decide_eq_false (by omega)
         have HX:=Lib.hid (show ∀(j:Nat) (p:Pc),j<q+1→l[j]? =some p→p.text.size≤5000 from fun j p' hj hp'=>by
          rcases Nat.lt_or_ge j q with h|h
          ·exact hQ.out j p' h hp'
          ·obtain rfl:j=q:=by omega
           rw[HPP.out]at hp';injection hp' with e
           rw[←e];exact h5)
         clear h5
         go_wp2_with fail
         go_roundw
         case rel=>exact⟨q+1,by omega,by go_num,by trivial,HX⟩
         case measure=>simp[intOf];omega
        ·have t6:decide (5000<p.text.size)=true:=decide_eq_true (by omega)
         have t7:decide ((5000:Int)<(p.text.size:Int))=true:=decide_eq_true (by omega);have HE:=Lib.hid (few_no HR.out (fun h=>h5 (h.2.2 p (List.mem_of_getElem? HPP.out))));clear h5
         go_wp2_with fail
         go_ret;exact⟨by rw[←HF.out,HE.out];rfl,rfl⟩
       ·obtain rfl:q=M:=by omega
        have t5:decide (q<q)=false:=by simp
        have HX:=Lib.hid (show ∀(j:Nat) (r:Rn),j<k+1→L[j]? =some r→fewR r from fun j r' hj hr'=>by
         rcases Nat.lt_or_ge j k with h|h
         ·exact hK.out j r' h hr'
         ·obtain rfl:j=k:=by omega
          rw[HR.out]at hr';injection hr' with e
          rw[←e];refine⟨by show l.length≤8;rw[HM.out];exact h8,HA.out,fun p hp=>?_⟩;obtain⟨i,hi,hi2⟩:=List.getElem_of_mem hp;exact hQ.out i p (by rw[←HM.out];exact hi) (by rw[List.getElem?_eq_getElem hi,hi2]))
        clear hQ h8
        go_wp2_with fail
        go_roundw
        case rel=>exact⟨k+1,by omega,by go_num,by trivial,HX⟩
        case measure=>simp[intOf];omega
     ·have t3:decide (300<at_)=false:=decide_eq_false h3
      clear ha h3
      go_wp2_with fail
      go_loopw [4] (fun i wr=> ∃q:Nat,q≤M∧i= .int .i64 q∧w=wr∧Hid (∀(j:Nat) (p:Pc),j<q→l[j]? =some p→p.text.size≤5000)) (fun i _=>M-(intOf i).toNat)
      case atStart=>exact⟨0,by omega,rfl,rfl,Lib.hid (fun j p h=>by omega)⟩
      case round=>
       obtain⟨q,hq,rfl,rfl,hQ⟩:=hrel;by_cases hqm:q<M
       ·have t5:decide (q<M)=true:=decide_eq_true hqm
        obtain⟨p,hp⟩: ∃p,l[q]? =some p:=⟨_,List.getElem?_eq_getElem (by rw[HM.out];exact hqm)⟩;obtain⟨b9,o9,hla,hlt,hc⟩:=HQ.out.1 q p hp;subst hla;have q0:(0:Int)≤(q:Int):=Int.natCast_nonneg _;have q1:(q:Int)<(M:Int):=by omega
        have d4:=hc 4 _ rfl;rw[off_eq]at d4;have HPP:=Lib.hid hp;clear hc hlt hp;by_cases h5:p.text.size≤5000
        ·have t6:decide (5000<p.text.size)=false:=decide_eq_false (by omega)
         have t7:decide ((5000:Int)<(p.text.size:Int))=false:=decide_eq_false (by omega)
         have HX:=Lib.hid (show ∀(j:Nat) (p:Pc),j<q+1→l[j]? =some p→p.text.size≤5000 from fun j p' hj hp'=>by
          rcases Nat.lt_or_ge j q with h|h
          ·exact hQ.out j p' h hp'
          ·obtain rfl:j=q:=by omega
           rw[HPP.out]at hp';injection hp' with e
           rw[←e];exact h5)
         clear h5
         go_wp2_with fail
         go_roundw
         case rel=>exact⟨q+1,by omega,by go_num,by trivial,HX⟩
         case measure=>simp[intOf];omega
        ·have t6:decide (5000<p.text.size)=true:=decide_eq_true (by omega)
         have t7:decide ((5000:Int)<(p.text.size:Int))=true:=decide_eq_true (by omega);have HE:=Lib.hid (few_no HR.out (fun h=>h5 (h.2.2 p (List.mem_of_getElem? HPP.out))));clear h5
         go_wp2_with fail
         go_ret;exact⟨by rw[←HF.out,HE.out];rfl,rfl⟩
       ·obtain rfl:q=M:=by omega
        have t5:decide (q<q)=false:=by simp
        have HX:=Lib.hid (show ∀(j:Nat) (r:Rn),j<k+1→L[j]? =some r→fewR r from fun j r' hj hr'=>by
         rcases Nat.lt_or_ge j k with h|h
         ·exact hK.out j r' h hr'
         ·obtain rfl:j=k:=by omega
          rw[HR.out]at hr';injection hr' with e
          rw[←e];refine⟨by show l.length≤8;rw[HM.out];exact h8,HA.out,fun p hp=>?_⟩;obtain⟨i,hi,hi2⟩:=List.getElem_of_mem hp;exact hQ.out i p (by rw[←HM.out];exact hi) (by rw[List.getElem?_eq_getElem hi,hi2]))
        clear hQ h8
        go_wp2_with fail
        go_roundw
        case rel=>exact⟨k+1,by omega,by go_num,by trivial,HX⟩
        case measure=>simp[intOf];omega
   ·have t1:decide (8<M)=true:=decide_eq_true (by omega)
    have t2:decide ((8:Int)<(M:Int))=true:=decide_eq_true (by omega);have HE:=Lib.hid (few_no HR.out (fun h=>h8 (by have:=h.1;rw[←HM.out];exact this)));clear h8
    go_wp2_with fail
    go_ret;exact⟨by rw[←HF.out,HE.out];rfl,rfl⟩
  ·obtain rfl:k=n:=by omega
   have t0:decide (k<k)=false:=by simp
   have HE:=Lib.hid (show F=decide (k≤8)from by
    rw[←HF.out,few_yes (fun j r hj=>hK.out j r (by have:=(List.getElem?_eq_some_iff.1 hj).1;have:=HN.out;omega) hj),HN.out])
   go_wp2_with fail
   go_ret;exact⟨by rw[HE.out];simp;omega,rfl⟩
end Go.Proofs.YtibjkhepedfpiaaGreatDoor.SlC
namespace Go.Proofs.YtibjkhepedfpiaaGreatDoor.SlP
open Go St CrC PaA PaK PaP SlM SlA SlB SlC
theorem take_snoc {S:List ByteArray} {q:Nat} {s:ByteArray} (h:S[q]? =some s):S.take (q+1)=S.take q++[s]:=by rw[List.take_add_one,h];rfl
theorem one_E (s:ByteArray):manyE [s]=paE s:=by
 unfold manyE;rw[if_neg (by simp),firstE]
 split
 ·rename_i h;rw[h];rfl
 ·rfl
theorem one_N (s:ByteArray):manyN [s]=if paE s=0 then nP [s.size]else 0:=by
 unfold manyN;rw[one_E];rfl
theorem sum_B {B:Nat}: ∀{S:List ByteArray},(∀s∈S,s.size≤B)→(S.map ByteArray.size).sum≤B*S.length
 |[],_=>by simp
 |x::t,h=>by
  have h1:=h x (by simp);have h2:=sum_B (S:=t) (fun s hs=>h s (by simp[hs]));rw[List.map_cons,List.sum_cons,List.length_cons,Nat.mul_add,Nat.mul_one];omega
theorem manyN_le {S:List ByteArray} {B:Nat} (h: ∀s∈S,s.size≤B):manyN S≤(B*S.length)/183+1:=by
 unfold manyN
 split
 ·have h1:=nP_le (S.map ByteArray.size)
  have:=Nat.div_le_div_right (c:=183) (sum_B h);omega
 ·omega
end Go.Proofs.YtibjkhepedfpiaaGreatDoor.SlP
namespace Go.Proofs.YtibjkhepedfpiaaGreatDoor.SlR
open Go Go.RowKit Q Mem St
def rightP (p s:Int):Prop:=0≤p∧p≤8190∧0≤s∧s≤1048576
instance (p s:Int):Decidable (rightP p s):=by unfold rightP;infer_instance
set_option maxRecDepth 100000
theorem right_any (p s:Int) (w:World):Calls Tryz.prog 57 #[.int .i64 p,.int .i64 s] w fun e w'=>e= .returned (.bool (decide (rightP p s)))∧w=w':=by
 have HR:=Lib.hid (show decide (rightP p s)=(decide (0≤p)&&(decide (p<8191)&&(decide (0≤s)&&decide (s≤1048576))))from by
  by_cases h:rightP p s
  ·rw[decide_eq_true h]
   obtain⟨h1,h2,h3,h4⟩:=h;rw[decide_eq_true h1,decide_eq_true (show p<8191 by omega),decide_eq_true h3,decide_eq_true h4];rfl
  ·rw[decide_eq_false h]
   by_cases h1:0≤p
   ·by_cases h2:p<8191
    ·by_cases h3:0≤s
     ·rw[decide_eq_false (show ¬s≤1048576 from fun h4=>h ⟨h1,by omega,h3,h4⟩)];simp
     ·rw[decide_eq_false h3];simp
    ·rw[decide_eq_false h2];simp
   ·rw[decide_eq_false h1];simp)
 obtain⟨R,hR⟩: ∃R,decide (rightP p s)=R:=⟨_,rfl⟩;rw[hR]at HR ⊢;clear hR
 go_enter Tryz.func57,Tryz.ntmps57
 go_wp2_with fail
 all_goals
  go_ret;refine⟨?_,rfl⟩;rw[HR.out]
  simp_all
  try omega
end Go.Proofs.YtibjkhepedfpiaaGreatDoor.SlR
namespace Go.Proofs.YtibjkhepedfpiaaGreatDoor.SlS
open Go Go.RowKit Q Mem Rg Ap ApG St CrB PaA PaK PaP SlM SlP SlR SlB
structure Br where
 pid:Int
 at_:Int
 S:List ByteArray
structure Bu where
 b:Br
 a:Option Addr
 c:Nat
def enBu (x:Bu):List Value:=[.int .i64 x.b.pid,.int .i64 x.b.at_,.slice x.a x.b.S.length x.c]
theorem enBu_len (x:Bu):(enBu x).length=3:=rfl
structure BuOk (w:World) (x:Bu):Prop where
 s:Seq enS 1 w x.a x.b.S
 c:x.b.S.length≤x.c
theorem BuOk.below {w w':World} {B:Nat} {x:Bu} (h:BuOk w x) (hB:w.heap.size≤B) (hb:Below B w w'):BuOk w' x:=⟨h.s.below hB hb,h.c⟩
def Small (b:Br):Prop:=b.S.length≤1000∧ ∀s∈b.S,s.size≤5000
noncomputable def planE (most:Int):Int→List Br→Int
 |_,[]=>0
 |e,b::t=>if ¬rightP b.pid b.at_ then 15 else if manyE b.S≠0 then manyE b.S else if most<manyN b.S then 17 else if 1048576<max b.at_ e then 15 else planE most (max b.at_ e+manyN b.S) t
noncomputable def planL:Int→List Br→List Br
 |_,[]=>[]
 |e,b::t=>⟨b.pid,max b.at_ e,b.S⟩::planL (max b.at_ e+manyN b.S) t
noncomputable def planR (most:Int) (L:List Br):Int:=if most<1 then 1 else planE most 0 L
theorem elemB:Elem Tryz.prog 26 36 3 40:=elem_of Tryz.underlying26 (z:= .agg #[.int .i64 0,.int .i64 0,.slice none 0 0]) (by kernel_rfl) rfl (by decide)
set_option maxRecDepth 100000
set_option maxHeartbeats 3200000 in
theorem plan_any (most:Int) (a:Option Addr) (n c:Nat) (L:List Bu) (w:World) (hn:L.length=n) (hl:n≤100000) (hL:Seq enBu 3 w a L) (hok: ∀x∈L,BuOk w x) (hsm: ∀x∈L,Small x.b):
 Calls Tryz.prog 21 #[.int .i64 most,.slice a n c] w fun e w'=>Below w.heap.size w w'∧ ∃v E,e= .returned (.tuple #[v,.int .i64 E])∧E=planR most (L.map Bu.b)∧(E≠0→v= .slice none 0 0)∧
  (E=0→ ∃D:List Bu,D.map Bu.b=planL 0 (L.map Bu.b)∧w'.ownsRow w.heap.size 36 3 v n (flat enBu D)∧ ∀d∈D,BuOk w' d):=by
 by_cases hm:most<1
 ·have t0:decide (most<1)=true:=decide_eq_true hm
  have HX:=Lib.hid (show(1:Int)=planR most (L.map Bu.b)from(if_pos hm).symm);clear hL hok hsm hm
  go_enter Tryz.func21,Tryz.ntmps21
  go_wp2_with fail
  go_ret2
  exact⟨Below.refl _ _,_,1,rfl,HX.out,fun _=>rfl,fun h=>by cases h⟩
 ·have t0:decide (most<1)=false:=decide_eq_false hm
  have HX:=Lib.hid (show planE most 0 (L.map Bu.b)=planR most (L.map Bu.b)from(if_neg hm).symm);have HL:=Lib.hid hL;have HN:=Lib.hid hn;have HO:=Lib.hid hok;have HSm:=Lib.hid hsm;have HM:=Lib.hid hm;clear hL hn hok hsm hm
  go_enter Tryz.func21,Tryz.ntmps21
  go_wp2_with fail
  go_loopw [6,7,17] (fun out en i wr=> ∃(q:Nat) (e:Int) (D:List Bu),q≤n∧i= .int .i64 q∧en= .int .i64 e∧Hid (0≤e∧e≤1080000∧planE most e ((L.map Bu.b).drop q)=planE most 0 (L.map Bu.b)∧D.map Bu.b++planL e ((L.map Bu.b).drop q)=planL 0 (L.map Bu.b)∧D.length=q)∧
   wr.ownsRow w.heap.size 36 3 out q (flat enBu D)∧Hid (∀d∈D,BuOk wr d∧ ∀b o,d.a=some ⟨b,o,none⟩→out.ownBlock≠some b∧b<wr.heap.size)∧Below w.heap.size w wr) (fun _ _ i _=>n-(intOf i).toNat)
  case atStart=>exact⟨0,0,[],by omega,rfl,rfl,Lib.hid ⟨by decide,by decide,rfl,rfl,rfl⟩,World.ownsRow_nil _ _ _ _,Lib.hid (fun d h=>by cases h),Below.refl _ _⟩
  case round=>
   obtain⟨q,e,D,hq,rfl,rfl,HE,hown,HD,hb⟩:=hrel;by_cases hqn:q<n
   ·have t1:decide (q<n)=true:=decide_eq_true hqn
    obtain⟨x,hx⟩: ∃x,L[q]? =some x:=⟨_,List.getElem?_eq_getElem (by rw[HN.out];exact hqn)⟩;obtain⟨b0,o0,rfl,hlt,hc⟩:=(HL.out.below (Nat.le_refl _) hb) q x hx;have k0:(0:Int)≤(q:Int):=Int.natCast_nonneg _;have k1:(q:Int)<(n:Int):=by omega
    have c0:=hc 0 _ rfl;have c1:=hc 1 _ rfl;have c2:=hc 2 _ rfl;rw[off_eq]at c0 c1 c2;rw[Nat.add_zero]at c0;obtain⟨hsq,hcap⟩:=HO.out x (List.mem_of_getElem? hx);obtain⟨h8,h5⟩:=HSm.out x (List.mem_of_getElem? hx);have HXX:=Lib.hid hx
    have hdr:(L.map Bu.b).drop q=x.b::(L.map Bu.b).drop (q+1):=by
     rw[List.drop_eq_getElem_cons (by rw[List.length_map,HN.out];exact hqn)]
     congr 1
     rw[List.getElem_map];have:=List.getElem?_eq_some_iff.1 hx;rw[this.2]
    have HDR:=Lib.hid hdr;obtain⟨⟨pid,at_,S⟩,sa,sc⟩:=x;dsimp only at c0 c1 c2 hsq hcap h8 h5;have hbk:=Blk.new wr 60 #[.int .i64 pid,.int .i64 at_,.slice sa S.length sc];obtain⟨ns,hns⟩: ∃ns,S.length=ns:=⟨_,rfl⟩;rw[hns]at hbk c2 hcap h8;clear hc hx hdr;have k1:=right_any pid at_ (wr.alloc (.cells #[.int .i64 pid,.int .i64 at_,.slice sa ns sc] 60));have hb1:=hb.alloc hb.size (.cells #[.int .i64 pid,.int .i64 at_,.slice sa ns sc] 60);have hE1:planE most 0 (L.map Bu.b)=planE most e (⟨pid,at_,S⟩::(L.map Bu.b).drop (q+1)):=by rw[←HDR.out,HE.out.2.2.1]
    rw[planE]at hE1;by_cases hr:rightP pid at_
    ·rw[decide_eq_true hr]at k1
     rw[if_neg (by simpa using hr)]at hE1;have hsq1:=(hsq.below (Nat.le_refl _) hb).below (Nat.le_refl _) ((Below.refl wr.heap.size wr).alloc (Nat.le_refl _) (.cells #[.int .i64 pid,.int .i64 at_,.slice sa ns sc] 60));have km:=many_any sa ns sc S _ hns (by omega) hcap hsq1 (fun s hs=>by have:=h5 s hs;omega);have hNB:=manyN_le h5;rw[hns]at hNB;obtain⟨F,hF⟩: ∃F,manyE S=F:=⟨_,rfl⟩;obtain⟨N,hNN⟩: ∃N,manyN S=N:=⟨_,rfl⟩;rw[hF,hNN]at km hE1;rw[hNN]at hNB;have hN3:N≤30000:=by omega
     have HR:=Lib.hid hr;have HFN:=Lib.hid (And.intro hF hNN)
     have hmx: ∀(ts:Array TypeId) (ty:TypeId) (V:World),(Builtin.max_ ts ty #[.int .i64 at_,.int .i64 e]).run Tryz.prog V= .ok (.int .i64 (max at_ e)) V:=fun ts ty V=>by
      rw[run_max_int2]
      congr 2
      split<;>omega
     obtain⟨m,hmm⟩: ∃m,max at_ e=m:=⟨_,rfl⟩;rw[hmm]at hmx hE1;have HMM:=Lib.hid hmm;clear hr hF hNN hNB hmm;by_cases hF0:F=0
     ·subst hF0
      rw[if_neg (by decide)]at hE1;by_cases hmo:most<(N:Int)
      ·have t3:decide (most<(N:Int))=true:=decide_eq_true hmo
       rw[if_pos hmo]at hE1;have HE1:=Lib.hid hE1;clear hE1 hmo
       go_wp2_with fail
       (with_reducible refine(k1).mono ?_);rintro e1 W1 ⟨rfl,rfl⟩
       go_wp2_with fail
       (with_reducible refine(km).mono ?_);rintro e1 W2 ⟨rfl,hb2⟩
       have hb3:=hb1.trans (hb2.mono hb1.size);have hbk2:=Blk.below hbk hb2 (Blk.lt hbk);have d0:=Blk.cell (hbk2) 0 (v:= .int .i64 pid) rfl;have d1:=Blk.cell (hbk2) 1 (v:= .int .i64 at_) rfl;have d2:=Blk.cell (hbk2) 2 (v:= .slice sa ns sc) rfl
       go_wp2_with fail
       go_ret2
       exact⟨hb3,_,17,rfl,by rw[←HX.out,HE1.out],fun _=>rfl,fun h=>by cases h⟩
      ·have t3:decide (most<(N:Int))=false:=decide_eq_false hmo
       rw[if_neg hmo]at hE1;by_cases hm1:1048576<m
       ·have t4:decide (1048576<m)=true:=decide_eq_true hm1
        rw[if_pos hm1]at hE1;have HE1:=Lib.hid hE1;clear hE1 hmo hm1
        go_wp2_with fail
        (with_reducible refine(k1).mono ?_);rintro e1 W1 ⟨rfl,rfl⟩
        go_wp2_with fail
        (with_reducible refine(km).mono ?_);rintro e1 W2 ⟨rfl,hb2⟩
        have hb3:=hb1.trans (hb2.mono hb1.size);have hbk2:=Blk.below hbk hb2 (Blk.lt hbk);have d0:=Blk.cell (hbk2) 0 (v:= .int .i64 pid) rfl;have d1:=Blk.cell (hbk2) 1 (v:= .int .i64 at_) rfl;have d2:=Blk.cell (hbk2) 2 (v:= .slice sa ns sc) rfl
        go_wp2_with fail
        go_ret2
        exact⟨hb3,_,15,rfl,by rw[←HX.out,HE1.out],fun _=>rfl,fun h=>by cases h⟩
       ·have t4:decide (1048576<m)=false:=decide_eq_false hm1
        rw[if_neg hm1]at hE1;have HE1:=Lib.hid hE1;clear hE1 hmo
        go_wp2_with fail
        (with_reducible refine(k1).mono ?_);rintro e1 W1 ⟨rfl,rfl⟩
        go_wp2_with fail
        (with_reducible refine(km).mono ?_);rintro e1 W2 ⟨rfl,hb2⟩
        have hb3:=hb1.trans (hb2.mono hb1.size);have hbk2:=Blk.below hbk hb2 (Blk.lt hbk);have d0:=Blk.cell (hbk2) 0 (v:= .int .i64 pid) rfl;have d1:=Blk.cell (hbk2) 1 (v:= .int .i64 at_) rfl;have d2:=Blk.cell (hbk2) 2 (v:= .slice sa ns sc) rfl
        go_wp2_with fail
        have hns1:1≤ns:=by
         have h1:manyE S=if S.length=0 then 18 else firstE S:=rfl;rw[HFN.out.1,hns]at h1;by_cases hz:ns=0
         ·rw[if_pos hz]at h1;cases h1
         ·omega
        have hsq2:=hsq1.below (Nat.le_refl _) hb2;obtain⟨s0,hs0⟩: ∃s,S[0]? =some s:=⟨_,List.getElem?_eq_getElem (by rw[hns];exact hns1)⟩;obtain⟨bs,os,rfl,hlb,_⟩:=hsq2 0 s0 hs0;clear hs0 d0 d1 d2;have f0:=fun pX=>Blk.cell (blk_ext (hbk2) pX) 0 (v:= .int .i64 pid) rfl;have f2:=fun pX=>Blk.cell (blk_ext (hbk2) pX) 2 (v:= .slice (some ⟨bs,os,none⟩) ns sc) rfl;have hsz2:=hb2.size;refine Go.Proofs.YtibjkhepedfpiaaGreatDoor.Rg.region_new [(6,newR 9 1 ns W2.heap.size (flat enS S)),(7,newA (fun u=> #[.int .i64 pid,.int .i64 m,u]) 9 1 ns W2.heap.size (flat enS S)),(8,newSA 36 (fun u=> #[.int .i64 pid,.int .i64 m,u]) 9 1 ns W2.heap.size (flat enS S))] 9 (by kernel_rfl) (by kernel_rfl) (by kernel_rfl) (lk_cons newR_inh (lk_cons newA_inh (lk_cons newSA_inh lk_nil))) (lk_cons newR_mono (lk_cons newA_mono (lk_cons newSA_mono lk_nil))) ?_;intro σ hσ;simp only[List.take_succ_cons,List.take_zero,List.drop_succ_cons,List.drop_zero];refine Go.Proofs.YtibjkhepedfpiaaGreatDoor.Rg.wpN_take 6 (by kernel_rfl) (by kernel_rfl) (by kernel_rfl) ?_;simp only[List.take_succ_cons,List.take_zero,List.drop_succ_cons,List.drop_zero]
        repeat (go_big_quiet_step (fail))
        refine wpQuiet_nil ?_;refine wpN_sp _ rfl (by kernel_rfl) (spAt_app0 _ _ rfl elemS rfl rfl (by rw[flat_length enS_len,hns]) (fun p=>seq_news enS_len (hsq2.below (Nat.le_refl _) (below_ext W2 p))) (by intro u hu;simp only[flat,enS,List.mem_flatMap,List.mem_singleton]at hu;obtain⟨_,_,rfl⟩:=hu;rfl) (by omega) (by unfold maxLen;omega) (Nat.le_refl _)) ?_;simp only[Act.put,List.setIfInBounds_toArray,List.set_cons_zero,List.set_cons_succ];refine wpN_sp _ rfl (by kernel_rfl) (spAt_agg 6 rfl (by kernel_rfl) (by intro w0 ao c hv;rw[hv];go_simp)) ?_;simp only[Act.put,List.setIfInBounds_toArray,List.set_cons_zero,List.set_cons_succ];refine wpN_sp _ rfl (by kernel_rfl) (spAt_newSA 7 rfl (by kernel_rfl) (Nat.le_refl _) (by intro w0 u hu;go_simp)) ?_;simp only[Act.put,List.setIfInBounds_toArray,List.set_cons_zero,List.set_cons_succ];refine wpN_nil ?_;rintro w9 ⟨pq,rfl⟩ hp;obtain⟨g9,u,hg9,hge,hb9,hown9⟩:=hp 8 _ rfl;rw[hg9];clear hp hσ;obtain⟨au,cu,rfl,hcu⟩:=own_cap hown9;have hbq:=below_ext W2 pq;have hb4:=hb3.trans (hbq.mono (by have:=hb3.size;omega));have hbo:Below wr.heap.size wr (ext W2 pq):=(((Below.refl wr.heap.size wr).alloc (Nat.le_refl _) (.cells #[.int .i64 pid,.int .i64 at_,.slice (some ⟨bs,os,none⟩) ns sc] 60)).trans (hb2.mono (by simp))).trans (hbq.mono (by simp at hsz2;omega));have hown0:=own_below hown hbo;have hsz0:=hbo.size;have hw2:wr.heap.size<W2.heap.size:=by simp at hsz2;omega
        have hlto:=fun r h=>(hown.lt r h).2;have hbs:=hb4.size;refine wpList_appG rfl _ _ rfl elemB rfl hown0 rfl rfl (blk_news hb9) (by simp[Value.oneCell']) (by omega) (by unfold maxLen;omega) (by have:=hb.size;omega) ?_;intro v9 w8 hownN hgN hatN;have hb8:=hb4.grown hgN hbs (fun r er=>(hown.lt r er).1);have hs9:=own_seq (en:=enS) enS_len hown9 hns;have hbo8: ∀g,g<(ext W2 pq).heap.size→u6.ownBlock≠some g→w8.heap[g]? =(ext W2 pq).heap[g]? :=fun g h1 h2=>hgN.block g h1 (fun h=>h2 h.symm)
        have HDN:=Lib.hid (show ∀d∈D++[(⟨⟨pid,m,S⟩,au,cu⟩:Bu)],BuOk w8 d∧ ∀b o,d.a=some ⟨b,o,none⟩→v9.ownBlock≠some b∧b<w8.heap.size from by
         intro d hd;rcases List.mem_append.1 hd with hd|hd
         ·obtain⟨h1,h2⟩:=HD.out d hd
          have h1':=h1.below (Nat.le_refl _) hbo;refine⟨⟨seq_only h1'.s hgN (fun b o e=>(h2 b o e).1),h1'.c⟩,fun b o e=>?_⟩;obtain⟨h3,h4⟩:=h2 b o e;refine⟨fun h=>?_,by have:=hgN.size;omega⟩;rcases hatN with e1|e1
          ·exact h3 (e1▸h)
          ·rw[e1]at h;injection h with h;omega
         ·simp only[List.mem_singleton]at hd
          subst hd;have hub:=fun b o e=>(hown9.lt b (by rw[show au=some ⟨b,o,none⟩from e];rfl));refine⟨⟨seq_only hs9 hgN (fun b o e h=>by have:=(hub b o e).1;have:=hlto b h;omega),by show S.length≤cu;omega⟩,fun b o e=>?_⟩;have:=hub b o e;refine⟨fun h=>?_,by have:=hgN.size;omega⟩;rcases hatN with e1|e1
          ·have:=hlto b (e1▸h);omega
          ·rw[e1]at h;injection h with h;omega)
        have hflat:flat enBu D++[.int .i64 pid,.int .i64 m,.slice au ns cu]=flat enBu (D++[⟨⟨pid,m,S⟩,au,cu⟩]):=by
         rw[flat_app];simp[flat,enBu,hns]
        rw[show(#[.int .i64 pid,.int .i64 m,.slice au ns cu]:Array Value).toList=[.int .i64 pid,.int .i64 m,.slice au ns cu]from rfl,hflat]at hownN
        have HEN:=Lib.hid (show 0≤m+N∧m+N≤1080000∧planE most (m+N) ((L.map Bu.b).drop (q+1))=planE most 0 (L.map Bu.b)∧(D++[(⟨⟨pid,m,S⟩,au,cu⟩:Bu)]).map Bu.b++planL (m+N) ((L.map Bu.b).drop (q+1))=planL 0 (L.map Bu.b)∧(D++[(⟨⟨pid,m,S⟩,au,cu⟩:Bu)]).length=q+1 from by
         obtain⟨h1,h2,h3,h4,h5⟩:=HE.out;have:=HMM.out;refine⟨by omega,by omega,HE1.out.symm,?_,by simp[h5]⟩;rw[←h4,HDR.out,planL];dsimp only;rw[HMM.out,HFN.out.2,List.map_append,List.append_assoc];rfl)
        clear hown0 hb9 hown9 hs9 hbo8 hgN hatN hlto hb4 hbo hb3 hbk2 hsq1 hsq2 hsq hflat hbq;have hm0:(0:Int)≤m:=by have:=HR.out.2.2.1;have:=HMM.out;omega
        have hN0:(0:Int)≤(N:Int):=Int.natCast_nonneg _;have hN9:(N:Int)≤30000:=by omega
        have hmb:m≤1048576:=by omega
        go_wp2_with fail
        go_roundw
        case rel=>exact⟨q+1,m+N,_,by omega,by go_num,rfl,HEN,hownN,HDN,hb8⟩
        case measure=>simp[intOf];omega
     ·have t2:(F==0)=false:=beq_eq_false_iff_ne.2 hF0
      rw[if_pos hF0]at hE1;have HE1:=Lib.hid hE1;have HF0:=Lib.hid hF0;clear hE1 hF0
      go_wp2_with fail
      (with_reducible refine(k1).mono ?_);rintro e1 W1 ⟨rfl,rfl⟩
      go_wp2_with fail
      (with_reducible refine(km).mono ?_);rintro e1 W2 ⟨rfl,hb2⟩
      have hb3:=hb1.trans (hb2.mono hb1.size);have hbk2:=Blk.below hbk hb2 (Blk.lt hbk);have d0:=Blk.cell (hbk2) 0 (v:= .int .i64 pid) rfl;have d1:=Blk.cell (hbk2) 1 (v:= .int .i64 at_) rfl;have d2:=Blk.cell (hbk2) 2 (v:= .slice sa ns sc) rfl
      go_wp2_with fail
      go_ret2
      exact⟨hb3,_,F,rfl,by rw[←HX.out,HE1.out],fun _=>rfl,fun h=>absurd h HF0.out⟩
    ·rw[decide_eq_false hr]at k1
     rw[if_pos hr]at hE1;have HE1:=Lib.hid hE1;clear hr hE1
     go_wp2_with fail
     (with_reducible refine(k1).mono ?_);rintro e1 W1 ⟨rfl,rfl⟩
     have hb3:=hb1
     go_wp2_with fail
     go_ret2
     exact⟨hb3,_,15,rfl,by rw[←HX.out,HE1.out],fun _=>rfl,fun h=>by cases h⟩
   ·obtain rfl:q=n:=by omega
    have t1:decide (q<q)=false:=by simp
    have HD0:=Lib.hid (show(L.map Bu.b).drop q=[]from List.drop_of_length_le (by rw[List.length_map,HN.out];exact Nat.le_refl _))
    go_wp2_with fail
    go_ret2
    refine⟨hb,_,0,rfl,?_,fun h=>absurd rfl h,fun _=>⟨D,?_,hown,fun d hd=>(HD.out d hd).1⟩⟩
    ·have:=HE.out.2.2.1
     rw[HD0.out,planE]at this;rw[←HX.out,←this]
    ·have:=HE.out.2.2.2.1
     rw[HD0.out,planL,List.append_nil]at this;exact this
end Go.Proofs.YtibjkhepedfpiaaGreatDoor.SlS
namespace Go.Proofs.YtibjkhepedfpiaaGreatDoor.SlQ
open Go Go.RowKit Q Mem Rg Ap St CrB CrC SeI SeC DgN MpA MpP PaA PaK PaP SlM SlA SlB SlC SlP
theorem len_le (p:Pc):p.len≤4000:=by unfold Pc.len;omega
theorem bytes_size (p:Pc) (h:p.text.size≤5000) (hb:p.b<256):p.bytes.size≤5000:=by
 have hl:=len_le p;unfold Pc.bytes
 split
 ·split
  ·have h1:=gramP_ok p.b p.len hb hl
   have h2:=enc_size h1;have h3:(gramP p.b p.len).enc=bytesS (gramP p.b p.len).sec:=if_pos h1;have h4:(gramP p.b p.len).text.size=20+(str (bodyL p.b p.len)).size:=(mk_ok _ _ _ 17 rfl rfl (by rw[←bl_len,bl_str,body_len];omega)).2;have h5:(str (bodyL p.b p.len)).size=p.len:=by rw[←bl_len,bl_str,body_len]
   rw[←h3,h2,h4,h5];omega
  ·rw[←bl_len,bl_str,seal_len,List.length_append,body_len]
   show 8+p.len+4≤5000;omega
 ·exact h
theorem own_cap {w:World} {B n sz:Nat} {e:TypeId} {v:Value} {xs:List Value} (h:w.ownsRow B e sz v n xs): ∃a c,v= .slice a n c∧n≤c:=by
 rcases h.2 with⟨e1,e0⟩|⟨g,cap,cur,e1,_,_,hc,_⟩
 ·exact⟨none,0,by rw[e1,e0],by omega⟩
 ·exact⟨some ⟨g,0,none⟩,cap,e1,hc⟩
set_option maxRecDepth 100000
end Go.Proofs.YtibjkhepedfpiaaGreatDoor.SlQ
namespace Go.Proofs.YtibjkhepedfpiaaGreatDoor.SlT
open Go Go.RowKit Q Mem Rg Ap ApG St CrB CrP CrC BiH SeG SeP PaA PaK PaP SlM SlP SlR SlA SlB SlS
def exP:Pc:=⟨2,66,0,false,ByteArray.empty⟩
theorem ex_bytes:exP.bytes=str (66::176::11::([0,1,193,0,0]++bodyL 0 2++four (sumL (tabL 66 2++bodyL 0 2)))):=by
 unfold Pc.bytes exP;rw[if_pos (show ByteArray.empty.size=0 from rfl)];rw[show(Pc.len ⟨2,66,0,false,ByteArray.empty⟩)=2 from rfl];simp only[Bool.false_eq_true,if_false];rfl
theorem ex_ok:paE exP.bytes=0∧exP.bytes.size=14:=by
 have hs:exP.bytes.size=14:=by rw[ex_bytes,←bl_len,bl_str];simp[body_len,four]
 have h0:at0 exP.bytes 0=66:=by rw[ex_bytes];exact at0_str _ 0 66 rfl
 have h1:at0 exP.bytes 1=176:=by rw[ex_bytes];exact at0_str _ 1 176 rfl
 have h2:at0 exP.bytes 2=11:=by rw[ex_bytes];exact at0_str _ 2 11 rfl
 have hE:needE exP.bytes=0:=by
  unfold needE;rw[if_neg (by omega),if_neg];unfold nBad nN;rw[h1,h2];decide
 refine⟨?_,hs⟩;unfold paE;rw[if_neg (by simpa using hE)];unfold needN nN;rw[if_pos hE,h0,h1,h2,hs];decide
theorem nP14:nP [14]=1:=Steps.eq ⟨by have:=pos_ge [14] 1;simp;omega,fun j hj=>by
 obtain rfl:j=0:=by omega
 simp[pos]⟩
theorem ex_many:manyE [exP.bytes]=0∧manyN [exP.bytes]=1:=by
 refine⟨by rw[one_E];exact ex_ok.1,?_⟩;rw[one_N,if_pos ex_ok.1,ex_ok.2,nP14]
theorem ex_plan (x:ByteArray) (h:manyE [x]=0∧manyN [x]=1):planR 9 [⟨17,5,[x]⟩,⟨18,0,[x]⟩]=0∧planL 0 [⟨17,5,[x]⟩,⟨18,0,[x]⟩]=[⟨17,5,[x]⟩,⟨18,6,[x]⟩]:=by
 constructor
 ·unfold planR planE planE planE
  dsimp only;rw[h.1,h.2];have h1:rightP 17 5:=by unfold rightP;omega
  have h2:rightP 18 0:=by unfold rightP;omega
  simp[h1,h2];omega
 ·unfold planL planL planL
  dsimp only;rw[h.2];rfl
set_option maxRecDepth 100000
set_option maxHeartbeats 1600000 in
theorem awake_any (w:World):Calls Tryz.prog 7 #[] w fun e w'=>e= .returned (.bool true)∧Below w.heap.size w w':=by
 have km: ∀V,Calls Tryz.prog 28 #[.agg #[.int .i64 2,.int .u8 66,.int .u8 0,.bool false,.string ⟨#[]⟩]] V fun e w'=>e= .returned (.string exP.bytes)∧Below V.heap.size V w':=fun V=>made_any exP V (by decide) (by decide);obtain⟨x,hx⟩: ∃x,exP.bytes=x:=⟨_,rfl⟩;have hmn:=ex_many;have hsz:=ex_ok.2;rw[hx]at km hmn hsz;have hP:=ex_plan x hmn;clear hx hmn
 go_enter Tryz.func7,Tryz.ntmps7
 go_wp2_with fail
 (with_reducible refine(km _).mono ?_);rintro e1 W1 ⟨rfl,hb1⟩
 clear km
 go_wp2_with fail
 have hb2:Below w.heap.size w (W1.alloc (.cells #[.string x] 9)):=hb1.alloc hb1.size _;have hbk:=Blk.new W1 9 #[.string x];have hsq:Seq enS 1 (W1.alloc (.cells #[.string x] 9)) (some ⟨W1.heap.size,0,none⟩) [x]:=seq_blk enS_len hbk rfl;obtain⟨W2,hW2⟩: ∃W2,W1.alloc (.cells #[.string x] 9)=W2:=⟨_,rfl⟩;rw[hW2]at hb2 hsq ⊢;have hb3:=hb2.alloc hb2.size (.cells #[.int .i64 17,.int .i64 5,.slice (some ⟨W1.heap.size,0,none⟩) 1 1,.int .i64 18,.int .i64 0,.slice (some ⟨W1.heap.size,0,none⟩) 1 1] 60);have hbk3:=Blk.new W2 60 #[.int .i64 17,.int .i64 5,.slice (some ⟨W1.heap.size,0,none⟩) 1 1,.int .i64 18,.int .i64 0,.slice (some ⟨W1.heap.size,0,none⟩) 1 1];have hsq3:=hsq.below (Nat.le_refl _) ((Below.refl W2.heap.size W2).alloc (Nat.le_refl _) (.cells #[.int .i64 17,.int .i64 5,.slice (some ⟨W1.heap.size,0,none⟩) 1 1,.int .i64 18,.int .i64 0,.slice (some ⟨W1.heap.size,0,none⟩) 1 1] 60))
 have kp:=plan_any 9 (some ⟨W2.heap.size,0,none⟩) 2 2 [⟨⟨17,5,[x]⟩,some ⟨W1.heap.size,0,none⟩,1⟩,⟨⟨18,0,[x]⟩,some ⟨W1.heap.size,0,none⟩,1⟩] _ rfl (by decide) (seq_blk enBu_len hbk3 rfl)
  (by intro y hy;simp at hy;rcases hy with rfl|rfl<;>exact⟨hsq3,Nat.le_refl _⟩) (by intro y hy;simp at hy;rcases hy with rfl|rfl<;>exact⟨by simp,by intro s hs;simp at hs;subst hs;omega⟩)
 rw[show([⟨⟨17,5,[x]⟩,some ⟨W1.heap.size,0,none⟩,1⟩,⟨⟨18,0,[x]⟩,some ⟨W1.heap.size,0,none⟩,1⟩]:List Bu).map Bu.b=[⟨17,5,[x]⟩,⟨18,0,[x]⟩]from rfl,hP.1,hP.2]at kp;rw[show W2.heap.size=W1.heap.size+1 by rw[←hW2];simp]at kp;clear hb1 hb2 hsq hsq3 hbk hbk3 hP
 go_wp2_with fail
 (with_reducible refine(kp).mono ?_);rintro e1 W3 ⟨hb4,v,E,rfl,rfl,_,hD⟩
 obtain⟨D,hD1,hown,hD2⟩:=hD rfl;have hb5:=hb3.trans (hb4.mono hb3.size);obtain⟨av,cv,rfl,_⟩:=own_cap hown;have hlen:D.length=2:=by have:=congrArg List.length hD1;simpa using this
 have hseq:=own_seq (en:=enBu) enBu_len hown hlen
 match D,hlen with
 |[d0,d1],_=>
  simp only[List.map_cons,List.map_nil,List.cons.injEq,and_true]at hD1;obtain⟨bo,oo,rfl,_,hc0⟩:=hseq 0 d0 rfl;obtain⟨bo',oo',ee,_,hc1⟩:=hseq 1 d1 rfl
  cases ee
  have c0:=hc0 1 _ rfl;have c1:=hc1 1 _ rfl;rw[hD1.1]at c0;rw[hD1.2]at c1;rw[off_eq]at c0 c1;dsimp only at c0 c1;clear hc0 hc1 hseq hown hD2 hD1 hb4 hb3
  go_wp2_with fail
  go_ret;exact⟨rfl,hb5⟩
end Go.Proofs.YtibjkhepedfpiaaGreatDoor.SlT
namespace Go.Proofs.YtibjkhepedfpiaaGreatDoor.SlOpn
open Go Go.RowKit Q Mem Ap Opn OpS SlA SlB SlC
open Go.ChangeShapes Go.WideShapes Go.ChangeAt Go.Joins
set_option maxRecDepth 100000
section
variable {H0:Type} {enc:TypeId×Value→H0} {w:World} {base:Nat} {spare:Nat→Bool} {held:Bool}
theorem u8_of {n:Int} (h:(Lit.int .u8 n).wf=true):0≤n∧n<256:=by
 simp only[Lit.wf,Bool.and_eq_true,decide_eq_true_eq]at h;have h1:(0:Int)≤n:=h.1;have h2:n≤255:=h.2;omega
theorem pc_of {n:Nat} {cs:List Value} (hl:cs.length=5) {x:DataW H0×List MemPlace} (h:DataW.trod enc Tryz.prog w base spare held n 79 cs=some x): ∃y:Pc,cs=enPc y∧PcOk y:=by
 obtain⟨ys,n',hn',hy,hlen,hyl,hf⟩:=DataW.trod_struct Tryz.underlying79 h
 match cs,hl,ys,hyl with
 |[c0,c1,c2,c3,c4],_,[y0,y1,y2,y3,y4],_=>
  have h0:=hf 0 _ rfl;have h1:=hf 1 _ rfl;have h2:=hf 2 _ rfl;have h3:=hf 3 _ rfl;have h4:=hf 4 _ rfl;rw[show Tryz.prog.cellsOf _=1 by kernel_rfl]at h0 h1 h2 h3 h4;obtain⟨a0,e0,_,_⟩:=DataW.trod_int Tryz.underlying3 h0;obtain⟨a1,e1,_,w1⟩:=DataW.trod_int Tryz.underlying5 h1;obtain⟨a2,e2,_,w2⟩:=DataW.trod_int Tryz.underlying5 h2;obtain⟨a3,e3,_⟩:=DataW.trod_bool Tryz.underlying4 h3;obtain⟨a4,e4,_,_⟩:=DataW.trod_string Tryz.underlying9 h4;simp at e0 e1 e2 e3 e4;have u1:=u8_of w1;have u2:=u8_of w2;obtain⟨m1,rfl⟩:=Int.eq_ofNat_of_zero_le u1.1;obtain⟨m2,rfl⟩:=Int.eq_ofNat_of_zero_le u2.1;exact⟨⟨a0,m1,m2,a3,a4⟩,by simp[enPc, *],by constructor<;>dsimp only<;>omega⟩
theorem pcs_of {n:Nat} {v:Value} {x:DataW H0×List MemPlace} (h:DataW.trod enc Tryz.prog w base spare held n 75 [v]=some x):
 ∃(a:Option Addr) (cap:Nat) (L:List Pc),v= .slice a L.length cap∧L.length≤9223372036854775807∧Seq enPc 5 w a L∧ ∀p∈L,PcOk p:=by
 obtain⟨a,cap,L,rfl,hl,hs,hq,_⟩:=seq_of (Q:=PcOk) (en:=enPc) (sz:=5) Tryz.underlying75 (by kernel_rfl) (by decide) (fun n cs x hc hx=>pc_of hc hx) h;exact⟨a,cap,L,rfl,hl,hs,hq⟩
def RnIn (w:World) (r:Rn):Prop:=Seq enPc 5 w r.la r.l∧r.l.length≤9223372036854775807∧ ∀p∈r.l,PcOk p
theorem rn_of {n:Nat} {cs:List Value} (hl:cs.length=3) {x:DataW H0×List MemPlace} (h:DataW.trod enc Tryz.prog w base spare held n 77 cs=some x): ∃y:Rn,cs=enRn y∧RnIn w y:=by
 obtain⟨ys,n',hn',hy,hlen,hyl,hf⟩:=DataW.trod_struct Tryz.underlying77 h
 match cs,hl,ys,hyl with
 |[c0,c1,c2],_,[y0,y1,y2],_=>
  have h0:=hf 0 _ rfl;have h1:=hf 1 _ rfl;have h2:=hf 2 _ rfl;rw[show Tryz.prog.cellsOf _=1 by kernel_rfl]at h0 h1 h2;obtain⟨a0,e0,_,_⟩:=DataW.trod_int Tryz.underlying3 h0;obtain⟨a1,e1,_,w1⟩:=DataW.trod_int Tryz.underlying3 h1;simp at e0 e1;obtain⟨a,cap,L,rfl,hL,hs,hq⟩:=pcs_of (v:=c2) h2;exact⟨⟨a0,a1,a,cap,L⟩,by simp[enRn, *],hs,hL,hq⟩
theorem rns_of {n:Nat} {v:Value} {x:DataW H0×List MemPlace} (h:DataW.trod enc Tryz.prog w base spare held n 23 [v]=some x):
 ∃(a:Option Addr) (cap:Nat) (L:List Rn),v= .slice a L.length cap∧L.length≤9223372036854775807∧Seq enRn 3 w a L∧ ∀r∈L,RnIn w r:=by
 obtain⟨a,cap,L,rfl,hl,hs,hq,_⟩:=seq_of (Q:=RnIn w) (en:=enRn) (sz:=3) Tryz.underlying23 (by kernel_rfl) (by decide) (fun n cs x hc hx=>rn_of hc hx) h;exact⟨a,cap,L,rfl,hl,hs,hq⟩
end
end Go.Proofs.YtibjkhepedfpiaaGreatDoor.SlOpn
namespace Go.Proofs.YtibjkhepedfpiaaGreatDoor.SlU
open Go Go.RowKit Q Mem Rg Ap ApG ApC St CrB BiW BiG PaP
def lenS:Value→Int
 | .slice _ n _=>n
 |_=>0
def fillL (s:ByteArray):List UInt8:=bl s++List.replicate (184-s.size) 255
set_option maxRecDepth 100000
set_option maxHeartbeats 1600000 in
theorem filled_any (s:ByteArray) (w:World) (hs:s.size≤1099511627776):Calls Tryz.prog 102 #[.string s] w fun e w'=>e= .returned (.string (str (fillL s)))∧Below w.heap.size w w':=by
 obtain⟨c,hc⟩: ∃c,grownCap w s.size 0 5=c:=⟨_,rfl⟩;have hcg:s.size≤c:=by rw[←hc];exact grownCap_ge w s.size 0 5
 have hcv:(convert 9 90 (.string s)).run Tryz.prog w= .ok (.slice (some ⟨w.heap.size,0,none⟩) s.size c) (w.drew.alloc (.cells (bytesRow s c) 5 ((bytesRow s c).size,(bytesRow s c).size+1))):=by
  rw[←hc];exact run_bytes_of_string w _ _ _ s Tryz.underlying9 Tryz.underlying90 Tryz.underlying5
 have hC0:=cells_conv s w 5 c hcg;have hb0:Below w.heap.size w (w.drew.alloc (.cells (bytesRow s c) 5 ((bytesRow s c).size,(bytesRow s c).size+1))):=(Below.refl _ _).drew.alloc (Nat.le_refl _) _;obtain⟨V,hV⟩: ∃V,w.drew.alloc (.cells (bytesRow s c) 5 ((bytesRow s c).size,(bytesRow s c).size+1))=V:=⟨_,rfl⟩;rw[hV]at hcv hC0 hb0;clear hV hc;have hC1:=Lib.hid hC0
 go_enter Tryz.func102,Tryz.ntmps102
 go_wp2_with fail
 go_loopw [3] (fun v wr=> ∃q:Nat,Hid (q=0∨s.size+q≤184)∧Cells wr w.heap.size v (s.size+q) (u8s (bl s++List.replicate q 255))∧Below w.heap.size w wr) (fun v _=>184-(lenS v).toNat)
 case atStart=>exact⟨0,Lib.hid (Or.inl rfl),by simpa using hC0,hb0⟩
 case round=>
  obtain⟨q,hq,hC,hb⟩:=hrel;obtain⟨g,cap,rfl,_,_,hnc,_⟩:=id hC;by_cases hl:s.size+q<184
  ·have t0:decide ((s.size:Int)+(q:Int)<184)=true:=decide_eq_true (by omega)
   have t1:decide (s.size+q<184)=true:=decide_eq_true hl;have hbk:=Blk.new wr 5 #[.int .u8 255];have hC2:=hC.below ((Below.refl wr.heap.size wr).alloc (Nat.le_refl _) (.cells #[.int .u8 255] 5));have hsz2:w.heap.size≤(wr.alloc (.cells #[.int .u8 255] 5)).heap.size:=by have:=hb.size;simp;omega
   have hb2:=hb.alloc hb.size (.cells #[.int .u8 255] 5);clear hC
   go_wp2_with (at_builtin;refine wpList_appC rfl _ _ rfl elemB rfl hC2 rfl (Blk.cell hbk 0 rfl) rfl (by omega) (by unfold maxLen;omega) hsz2 ?_)
   intro v9 w8 hC9 hb8;have hb3:=hb2.trans hb8
   have hC8:Cells w8 w.heap.size v9 (s.size+(q+1)) (u8s (bl s++List.replicate (q+1) 255)):=by
    rw[List.replicate_succ',←List.append_assoc];rw[show u8s (bl s++List.replicate q 255++[255])=u8s (bl s++List.replicate q 255)++[.int .u8 255] by simp[u8s,u8v]];exact hC9
   have hC7:=Lib.hid hC8;obtain⟨g',cap',rfl,_⟩:=hC8;clear hC2 hbk hb2 hC9 hb8
   go_wp2_with fail
   go_roundw
   case rel=>exact⟨q+1,Lib.hid (Or.inr (by omega)),hC7.out,hb3⟩
   case measure=>simp[lenS];omega
  ·have t0:decide ((s.size:Int)+(q:Int)<184)=false:=decide_eq_false (by omega)
   have t1:decide (s.size+q<184)=false:=decide_eq_false hl;have hcs:=cells_str hC
   have HF:=Lib.hid (show bl s++List.replicate q 255=fillL s from by
    unfold fillL;rw[show q=184-s.size by rcases hq.out with h|h<;>omega])
   rw[HF.out]at hcs;clear hC
   go_wp2_with fail
   go_ret;exact⟨rfl,hb⟩
end Go.Proofs.YtibjkhepedfpiaaGreatDoor.SlU
namespace Go.Proofs.YtibjkhepedfpiaaGreatDoor.SlV
open Go Go.RowKit Q Mem Rg Ap ApG ApC St CrB BiW BiG PaP SlP SlU
theorem mem_le: ∀{l:List Nat} {x:Nat},x∈l→x≤l.sum
 |[],x,h=>by cases h
 |y::t,x,h=>by
  rw[List.sum_cons];rcases List.mem_cons.1 h with rfl|h
  ·omega
  ·have:=mem_le h;omega
theorem elemR:Elem Tryz.prog 150 104 5 48:=elem_of Tryz.underlying150 (z:= .agg #[.int .i64 0,.bool false,.int .i64 0,.bool false,.string ByteArray.empty]) (by kernel_rfl) rfl (by decide)
def strZ:Value→Nat
 | .string s=>s.size
 |_=>0
theorem dr_zero (d r:Nat) (ls:List Nat) (h:r≤d):dr d r ls=dr (d-r) 0 ls:=by
 cases ls with
 |nil=>simp[dr];omega
 |cons x t=>
  rw[dr,dr];by_cases e:d=r
  ·subst e;simp
  ·rw[if_neg (by omega),if_neg (by omega)];simp
theorem dr_long (d x:Nat) (t:List Nat) (h:d<x):dr d 0 (x::t)=(x-d,t)∨d=0:=by
 by_cases e:d=0
 ·exact Or.inr e
 ·left
  rw[dr,if_neg (by omega)]
  cases t with
  |nil=>simp[dr]
  |cons y t=>rw[dr,if_pos (by omega)];simp
theorem dr_short (d x:Nat) (t:List Nat) (h:x≤d) (hd:0<d):dr d 0 (x::t)=dr (d-x) 0 t:=by
 rw[dr,if_neg (by omega),Nat.sub_zero,dr_zero d x t h]
theorem dr_nil (d r:Nat):dr d r []=(r-d,[]):=rfl
theorem dr_in (d r:Nat) (ls:List Nat) (h:d≤r):dr d r ls=(r-d,ls):=by
 cases ls with
 |nil=>rfl
 |cons x t=>rw[dr,if_pos h]
theorem dr_all (ls:List Nat) (d r:Nat) (hp: ∀x∈ls,0<x) (h:r+ls.sum≤d):dr d r ls=(0,[]):=by
 obtain⟨h1,h2⟩:=(dr_end ls d r hp).2 h;rw[←h1,←h2]
set_option maxRecDepth 100000
set_option maxHeartbeats 3200000 in
theorem bodies_any (a:Option Addr) (n c:Nat) (S:List ByteArray) (w:World) (hn:S.length=n) (hl:n≤100000) (hS:Seq enS 1 w a S) (hp: ∀s∈S,0<s.size) (hz:(S.map ByteArray.size).sum≤1099511627776):
 Calls Tryz.prog 69 #[.slice a n c] w fun e w'=>Below w.heap.size w w'∧ ∃ao co,e= .returned (.slice ao (nP (S.map ByteArray.size)) co):=by
 have HS:=Lib.hid hS;have HN:=Lib.hid hn;have HZ:=Lib.hid hz;have HP:=Lib.hid (show ∀x∈S.map ByteArray.size,0<x from fun x hx=>by obtain⟨s,hs,rfl⟩:=List.mem_map.1 hx;exact hp s hs);clear hS hn hp hz
 go_enter Tryz.func69,Tryz.ntmps69
 go_wp2_with fail
 go_loopw [3,4] (fun rv i wr=> ∃(q:Nat) (x:ByteArray),q≤n∧i= .int .i64 q∧rv= .string x∧Hid (x.size=((S.map ByteArray.size).take q).sum)∧w=wr) (fun _ i _=>n-(intOf i).toNat)
 case atStart=>exact⟨0,⟨#[]⟩,by omega,rfl,rfl,Lib.hid rfl,by trivial⟩
 case round=>
  obtain⟨q,x,hq,rfl,rfl,hx,rfl⟩:=hrel;by_cases hqn:q<n
  ·have t0:decide (q<n)=true:=decide_eq_true hqn
   obtain⟨s,hs⟩: ∃s,S[q]? =some s:=⟨_,List.getElem?_eq_getElem (by rw[HN.out];exact hqn)⟩;obtain⟨b0,o0,rfl,hlt,hc⟩:=HS.out q s hs;have c0:w.cell? ⟨b0,o0+q,none⟩=some (.string s):=hc 0 _ rfl;have k0:(0:Int)≤(q:Int):=Int.natCast_nonneg _;have k1:(q:Int)<(n:Int):=by omega
   have hsum:((S.map ByteArray.size).take (q+1)).sum=x.size+s.size:=by
    rw[hx.out,List.take_add_one,List.getElem?_map,hs];simp
   have hle:((S.map ByteArray.size).take (q+1)).sum≤1099511627776:=by
    have:=HZ.out;have h2:(S.map ByteArray.size).sum=((S.map ByteArray.size).take (q+1)).sum+((S.map ByteArray.size).drop (q+1)).sum:=by rw[←List.sum_append,List.take_append_drop]
    omega
   have ka:=fun U=>add_at x s (by omega) U;have HX:=Lib.hid (show(x++s).size=((S.map ByteArray.size).take (q+1)).sum from by rw[ByteArray.size_append,hsum]);clear hc hs hsum hle
   go_wp2_with fail
   go_roundw
   case rel=>exact⟨q+1,x++s,by omega,by go_num,rfl,HX,by trivial⟩
   case measure=>simp[intOf];omega
  ·obtain rfl:q=n:=by omega
   have t0:decide (q<q)=false:=by simp
   have hxs:x.size=(S.map ByteArray.size).sum:=by rw[hx.out,List.take_of_length_le (by rw[List.length_map,HN.out];exact Nat.le_refl _)]
   obtain⟨ls,hls⟩: ∃ls,S.map ByteArray.size=ls:=⟨_,rfl⟩;rw[hls]at hxs HZ HP ⊢;obtain⟨T,hT⟩: ∃T,ls.sum=T:=⟨_,rfl⟩;rw[hT]at hxs HZ;have HT:=Lib.hid hT;have HL:=Lib.hid hls;have HLL:=Lib.hid (show ls.length=q from by rw[←hls,List.length_map,HN.out]);clear hT hls hx hqn hq
   go_wp2_with fail
   go_loopw [3,5,6,7] (fun rv out rr nx wr=> ∃(k:Nat) (x:ByteArray) (r m:Nat) (xs:List Value),rv= .string x∧rr= .int .i64 r∧nx= .int .i64 m∧m≤q∧Hid (x.size=T-pos ls k∧(r,ls.drop m)=dr (pos ls k) 0 ls∧ ∀j,j<k→pos ls j<T)∧
    wr.ownsRow w.heap.size 104 5 out k xs∧Below w.heap.size w wr) (fun rv _ _ _ _=>strZ rv)
   case atStart=>exact⟨0,x,0,0,[],rfl,rfl,rfl,by omega,Lib.hid ⟨by simp[pos,hxs],by rw[pos,dr_in _ _ _ (Nat.le_refl _)];rfl,fun j hj=>by omega⟩,World.ownsRow_nil _ _ _ _,Below.refl _ _⟩
   case round=>
    clear hxs;obtain⟨k,x,r,m,xs,rfl,rfl,rfl,hm,HI,hown,hb⟩:=hrel;by_cases hx0:0<x.size
    ·have t0:decide (0<x.size)=true:=decide_eq_true hx0
     have hdp:pos ls k<T:=by have:=HI.out.1;omega
     have hrs:r+(ls.drop m).sum=x.size:=by
      have h1:=dr_sum ls (pos ls k) 0;rw[←HI.out.2.1,HT.out]at h1;have h2:=HI.out.1;dsimp only at h1;omega
     have hkB:k≤6010000000:=by
      have:=pos_ge ls k;have:=HZ.out;omega
     have hxB:x.size≤1099511627776:=by have:=HZ.out;have:=HI.out.1;omega
     have hbs:=hb.size;by_cases h183:183≤r
     ·have t1:decide (183≤r)=true:=decide_eq_true h183
      obtain⟨nn,hnn⟩: ∃nn,min r 184=nn:=⟨_,rfl⟩
      have hmn: ∀(ts:Array TypeId) (ty:TypeId) (V:World),(Builtin.min_ ts ty #[.int .i64 (r:Int),.int .i64 184]).run Tryz.prog V= .ok (.int .i64 (nn:Int)) V:=fun ts ty V=>by
       rw[run_min_int2]
       congr 2
       split<;>omega
      have n1:(nn:Int)≤(x.size:Int):=by omega
      have n2:(0:Int)≤(nn:Int):=by omega
      have n3:(x.extract nn x.size).size=x.size-nn:=by rw[ByteArray.size_extract];omega
      have HNx:=Lib.hid (show(x.extract nn x.size).size=T-pos ls (k+1)∧(r-nn,ls.drop m)=dr (pos ls (k+1)) 0 ls∧ ∀j,j<k+1→pos ls j<T from by
       have hfp:pos ls (k+1)=pos ls k+nn:=by
        rw[pos,fp,←HI.out.2.1];dsimp only
        split<;>omega
       refine⟨by rw[n3,hfp];have:=HI.out.1;omega,?_,fun j hj=>?_⟩
       ·rw[hfp,←dr_add,←HI.out.2.1,dr_in _ _ _ (by omega)]
       ·rcases Nat.lt_or_ge j k with h|h
        ·exact HI.out.2.2 j h
        ·obtain rfl:j=k:=by omega
         exact hdp)
      have hb9:=Blk.new wr 104 #[.int .i64 0,.bool false,.int .i64 0,.bool false,.string (x.extract 0 nn)];have hown2:=own_below hown ((Below.refl wr.heap.size wr).alloc (Nat.le_refl _) (.cells #[.int .i64 0,.bool false,.int .i64 0,.bool false,.string (x.extract 0 nn)] 104));have hsz2:w.heap.size≤(wr.alloc (.cells #[.int .i64 0,.bool false,.int .i64 0,.bool false,.string (x.extract 0 nn)] 104)).heap.size:=by simp;omega
      have hb2:=hb.alloc hb.size (.cells #[.int .i64 0,.bool false,.int .i64 0,.bool false,.string (x.extract 0 nn)] 104);clear hown hb;have hcast:((r-nn:Nat):Int)=(r:Int)-(nn:Int):=by omega
      have HC:=Lib.hid hcast;have hrB:(r:Int)≤1099511627776:=by omega
      clear hcast hrs hdp;have hnr:(nn:Int)≤(r:Int):=by omega
      have hnp:0<nn:=by omega
      clear hnn
      go_wp2_with (at_builtin;refine wpList_app rfl _ _ rfl elemR rfl hown2 rfl rfl (blk_news hb9) (by simp[Value.oneCell']) (by omega) (by unfold maxLen;omega) hsz2 ?_)
      intro v9 w8 hown9 hb8;have hb3:=hb2.trans hb8;clear hown2 hb9 hb2 hb8
      go_wp2_with fail
      go_roundw
      case rel=>exact⟨k+1,x.extract nn x.size,r-nn,m,_,rfl,by rw[HC.out],rfl,hm,HNx,hown9,hb3⟩
      case measure=>simp only[strZ];omega
     ·have t1:decide (183≤r)=false:=decide_eq_false h183
      by_cases hq:0<r∧m=q
      ·obtain⟨hr0,rfl⟩:=hq
       have t2:decide (0<r)=true:=decide_eq_true hr0;have t3:(m==m)=true:=beq_self_eq_true m;have kf:=fun V=>filled_any x V hxB
       have HK:=Lib.hid (show nP ls=k+1 from by
        have hd0:ls.drop m=[]:=List.drop_of_length_le (by rw[HLL.out];exact Nat.le_refl _);rw[hd0]at hrs;simp at hrs
        have hfp:pos ls (k+1)=pos ls k+183:=by
         rw[pos,fp,←HI.out.2.1];dsimp only;rw[if_neg (by omega)]
        refine Steps.eq ⟨by rw[HT.out,hfp];have:=HI.out.1;omega,fun j hj=>?_⟩;rw[HT.out];rcases Nat.lt_or_ge j k with h|h
        ·exact HI.out.2.2 j h
        ·obtain rfl:j=k:=by omega
         exact hdp)
       obtain⟨F,hF⟩: ∃F,str (fillL x)=F:=⟨_,rfl⟩;rw[hF]at kf;clear hrs hF hdp
       go_wp2_with fail
       (with_reducible refine(kf _).mono ?_);rintro e1 W1 ⟨rfl,hb1⟩
       have hown1:=own_below hown hb1;have hb2:=hb.trans (hb1.mono hbs);have hb9:=Blk.new W1 104 #[.int .i64 0,.bool false,.int .i64 0,.bool false,.string F];have hown2:=own_below hown1 ((Below.refl W1.heap.size W1).alloc (Nat.le_refl _) (.cells #[.int .i64 0,.bool false,.int .i64 0,.bool false,.string F] 104));have hsz2:w.heap.size≤(W1.alloc (.cells #[.int .i64 0,.bool false,.int .i64 0,.bool false,.string F] 104)).heap.size:=by have:=hb2.size;simp;omega
       have hb3:=hb2.alloc hb2.size (.cells #[.int .i64 0,.bool false,.int .i64 0,.bool false,.string F] 104);clear hown hown1 kf hb1
       go_wp2_with (at_builtin;refine wpList_app rfl _ _ rfl elemR rfl hown2 rfl rfl (blk_news hb9) (by simp[Value.oneCell']) (by omega) (by unfold maxLen;omega) hsz2 ?_)
       intro v9 w8 hown9 hb8;have hb4:=hb3.trans hb8;obtain⟨ao,co,rfl⟩:=own_form hown9;clear hown2 hb9 hb3 hb8
       go_wp2_with fail
       go_ret;exact⟨hb4,ao,co,by rw[HL.out,HK.out];rfl⟩
      ·obtain⟨nn,hnn⟩: ∃nn,min 183 x.size=nn:=⟨_,rfl⟩
       have hmn: ∀(ts:Array TypeId) (ty:TypeId) (V:World),(Builtin.min_ ts ty #[.int .i64 183,.int .i64 (x.size:Int)]).run Tryz.prog V= .ok (.int .i64 (nn:Int)) V:=fun ts ty V=>by
        rw[run_min_int2]
        congr 2
        split<;>omega
       have n1:(nn:Int)≤(x.size:Int):=by omega
       have n2:(0:Int)≤(nn:Int):=by omega
       have n3:(x.extract nn x.size).size=x.size-nn:=by rw[ByteArray.size_extract];omega
       have n4:(r:Int)≤(nn:Int):=by omega
       have n5:(nn:Int)≤183:=by omega
       have n6:(0:Int)≤(r:Int):=by omega
       have q1:IntKind.u8.wrap (r:Int)=(r:Int):=by rw[IntKind.wrap_u8];omega
       have hso:strOfNums [(r:Int)]=str [UInt8.ofNat r]:=by rw[nums_str];rfl
       have ka:=fun U=>add_at (strOfNums [(r:Int)]) (x.extract 0 nn) (by rw[hso,←bl_len,bl_str,ext_size _ (by omega)];simp;omega) U;obtain⟨Y,hY⟩: ∃Y,strOfNums [(r:Int)]++x.extract 0 nn=Y:=⟨_,rfl⟩;have hYz:Y.size≤1000:=by rw[←hY,ByteArray.size_append,hso,←bl_len,bl_str,ext_size _ (by omega)];simp;omega
       rw[hY]at ka;have kf:=fun V=>filled_any Y V (by omega);obtain⟨F,hF⟩: ∃F,str (fillL Y)=F:=⟨_,rfl⟩;rw[hF]at kf
       have HTG:=Lib.hid (show dr nn r (ls.drop m)=dr 183 r (ls.drop m)from by
        by_cases h:183≤x.size
        ·rw[show nn=183 by omega]
        ·rw[dr_all _ nn r (fun y hy=>HP.out y (List.mem_of_mem_drop hy)) (by omega),dr_all _ 183 r (fun y hy=>HP.out y (List.mem_of_mem_drop hy)) (by omega)])
       have HST:=Lib.hid (show(x.extract nn x.size).size=T-pos ls (k+1)∧dr 183 r (ls.drop m)=dr (pos ls (k+1)) 0 ls∧ ∀j,j<k+1→pos ls j<T from by
        have hfp:pos ls (k+1)=pos ls k+183:=by
         rw[pos,fp,←HI.out.2.1];dsimp only;rw[if_neg (by omega)]
        refine⟨by rw[n3,hfp];have:=HI.out.1;omega,?_,fun j hj=>?_⟩
        ·rw[hfp,←dr_add,←HI.out.2.1]
        ·rcases Nat.lt_or_ge j k with h|h
         ·exact HI.out.2.2 j h
         ·obtain rfl:j=k:=by omega
          exact hdp)
       have HM:=Lib.hid (show dr (nn-r) 0 (ls.drop m)=dr nn r (ls.drop m)from(dr_zero nn r _ (by omega)).symm);have hnp:0<nn:=by omega
       clear hrs hdp hso hY hF hnn;by_cases hr0:0<r
       ·have t2:decide (0<r)=true:=decide_eq_true hr0
        have t3:(m==q)=false:=beq_eq_false_iff_ne.2 (fun e=>hq ⟨hr0,e⟩);have t4:((m:Int)==(q:Int))=false:=beq_eq_false_iff_ne.2 (fun e=>hq ⟨hr0,by omega⟩);clear hq hr0
        go_wp2_with fail
        refine Go.Proofs.YtibjkhepedfpiaaGreatDoor.Rg.region_new [(3,newS 1 5 #[.int .u8 (r:Int)] 0),(4,val (.string (strOfNums [(r:Int)]))),(9,val (.string F)),(11,newS 1 104 #[.int .i64 0,.bool true,.int .i64 0,.bool false,.string F] 0)] 12 (by kernel_rfl) (by kernel_rfl) (by kernel_rfl) (lk_cons newS_inh (lk_cons val_inh (lk_cons val_inh (lk_cons newS_inh lk_nil)))) (lk_cons newS_mono (lk_cons val_mono (lk_cons val_mono (lk_cons newS_mono lk_nil)))) ?_;intro σ hσ;simp only[List.take_succ_cons,List.take_zero,List.drop_succ_cons,List.drop_zero];have hσv:σ 4= .string (strOfNums [(r:Int)]):=hσ 4 _ rfl;have hσd:σ 9= .string F:=hσ 9 _ rfl;refine Go.Proofs.YtibjkhepedfpiaaGreatDoor.Rg.wpN_take 3 (by kernel_rfl) (by kernel_rfl) (by kernel_rfl) ?_;simp only[List.take_succ_cons,List.take_zero,List.drop_succ_cons,List.drop_zero]
        repeat (go_big_quiet_step (fail))
        refine wpQuiet_nil ?_;refine wpN_sp _ rfl (by kernel_rfl) (spAt_newS 1 5 #[.int .u8 (r:Int)] (Nat.zero_le _) (by intro w0;go_simp)) ?_;simp only[Act.put,List.setIfInBounds_toArray,List.set_cons_zero,List.set_cons_succ];refine wpN_sp _ rfl (by kernel_rfl) (spAt_read (fun p hd=>?_)) ?_
        ·obtain⟨g,hg,_,hblk⟩:=dep_at hd 3 rfl (by kernel_rfl)
         have hcv2:=run_convert_bytes_arg (P:=Tryz.prog) (ext _ p) 90 5 Tryz.underlying90 Tryz.underlying5 g 0 1 1 [(r:Int)] rfl (fun j hj=>by
          match j,hj with
          |0,_=>exact Blk.cell hblk 0 rfl) _ Tryz.underlying9
         rw[hg]
         go_simp
        simp only[Act.put,List.setIfInBounds_toArray,List.set_cons_zero,List.set_cons_succ];rw[hσv];refine Go.Proofs.YtibjkhepedfpiaaGreatDoor.Rg.wpN_take 4 (by kernel_rfl) (by kernel_rfl) (by kernel_rfl) ?_;simp only[List.take_succ_cons,List.take_zero,List.drop_succ_cons,List.drop_zero]
        repeat (go_big_quiet_step (fail))
        refine wpQuiet_nil ?_;refine wpN_sp _ rfl (by kernel_rfl) (spAt_val (f:=102) (args:= #[.string Y]) (by intro w0;go_simp) (fun p _=>kf _)) ?_;simp only[Act.put,List.setIfInBounds_toArray,List.set_cons_zero,List.set_cons_succ];rw[hσd];refine Go.Proofs.YtibjkhepedfpiaaGreatDoor.Rg.wpN_take 1 (by kernel_rfl) (by kernel_rfl) (by kernel_rfl) ?_;simp only[List.take_succ_cons,List.take_zero,List.drop_succ_cons,List.drop_zero]
        repeat (go_big_quiet_step (fail))
        refine wpQuiet_nil ?_;refine wpN_sp _ rfl (by kernel_rfl) (spAt_newS 1 104 #[.int .i64 0,.bool true,.int .i64 0,.bool false,.string F] (Nat.zero_le _) (by intro w0;go_simp)) ?_;simp only[Act.put,List.setIfInBounds_toArray,List.set_cons_zero,List.set_cons_succ];refine wpN_nil ?_;rintro w9 ⟨pq,rfl⟩ hp;obtain⟨g9,hg9,_,hb9⟩:=hp 11 _ rfl;rw[hg9];clear hp hσ hσv hσd;have hown0:=own_below hown (below_ext _ pq);have hb1:=hb.trans ((below_ext _ pq).mono hbs);have hsz0:=hb1.size;refine wpList_app rfl _ _ rfl elemR rfl hown0 rfl rfl (blk_news hb9) (by simp[Value.oneCell']) (by omega) (by unfold maxLen;omega) hsz0 ?_;intro v9 w8 hown9 hb8;have hb7:=hb1.trans hb8;clear hown0 hb1 hb8 hb9 hg9 hsz0 hown hb hbs kf ka
        go_wp2_with fail
        have HS8:=Lib.hid (HS.out.below (Nat.le_refl _) hb7)
        go_loopw [6,7,10] (fun rr nx rm wi=> ∃(d r1 m1:Nat),rr= .int .i64 r1∧nx= .int .i64 m1∧rm= .int .i64 d∧m1≤q∧d≤183∧Hid (dr d r1 (ls.drop m1)=dr nn r (ls.drop m)∧(r1=0∨d=0))∧w8=wi) (fun _ nx _ _=>q-(intOf nx).toNat)
        case atStart=>exact⟨nn-r,0,m,rfl,rfl,congrArg (Value.int .i64) (by omega),hm,by omega,Lib.hid ⟨HM.out,Or.inl rfl⟩,by trivial⟩
        case round=>
         obtain⟨d,r1,m1,rfl,rfl,rfl,hm1,hd,HI1,rfl⟩:=hrel;by_cases hd0:0<d
         ·have u1:decide (0<d)=true:=decide_eq_true hd0
          obtain rfl:r1=0:=by rcases HI1.out.2 with h|h<;>omega
          by_cases hmq:m1<q
          ·have u2:decide (m1<q)=true:=decide_eq_true hmq
           obtain⟨s,hs⟩: ∃s,S[m1]? =some s:=⟨_,List.getElem?_eq_getElem (by rw[HN.out];exact hmq)⟩;obtain⟨b0,o0,ea,hlt,hc⟩:=HS8.out m1 s hs;subst ea;have c0:w8.cell? ⟨b0,o0+m1,none⟩=some (.string s):=hc 0 _ rfl;have k0:(0:Int)≤(m1:Int):=Int.natCast_nonneg _;have k1:(m1:Int)<(q:Int):=by omega
           have hdr:ls.drop m1=s.size::ls.drop (m1+1):=by
            rw[List.drop_eq_getElem_cons (by rw[HLL.out];exact hmq)]
            congr 1
            have:ls[m1]? =some s.size:=by rw[←HL.out,List.getElem?_map,hs];rfl
            exact(List.getElem?_eq_some_iff.1 this).2
           have hsB:(s.size:Int)≤1099511627776:=by
            have h1:=HZ.out;have h2:s.size∈ls:=by rw[←HL.out];exact List.mem_map_of_mem (List.mem_of_getElem? hs)
            have h3:=mem_le h2;rw[HT.out]at h3;omega
           by_cases hds:d<s.size
           ·have u3:decide (d<s.size)=true:=decide_eq_true hds
            have HR:=Lib.hid (show dr 0 (s.size-d) (ls.drop (m1+1))=dr nn r (ls.drop m)from by
             rw[←HI1.out.1,hdr,dr_in _ _ _ (Nat.zero_le _)];rcases dr_long d s.size (ls.drop (m1+1)) hds with h|h
             ·rw[h];rfl
             ·omega)
            have hcst:((s.size-d:Nat):Int)=(s.size:Int)-(d:Int):=by omega
            have HC:=Lib.hid hcst;clear hc hs hdr hcst
            go_wp2_with fail
            go_roundw
            case rel=>exact⟨0,s.size-d,m1+1,congrArg (Value.int .i64) (by rw[HC.out]),by go_num,rfl,by omega,by omega,Lib.hid ⟨HR.out,Or.inr rfl⟩,by trivial⟩
            case measure=>simp[intOf];omega
           ·have u3:decide (d<s.size)=false:=decide_eq_false hds
            have HR:=Lib.hid (show dr (d-s.size) 0 (ls.drop (m1+1))=dr nn r (ls.drop m)from by
             rw[←HI1.out.1,hdr,dr_short _ _ _ (by omega) hd0])
            have hcst:((d-s.size:Nat):Int)=(d:Int)-(s.size:Int):=by omega
            have HC:=Lib.hid hcst;clear hc hs hdr hcst
            go_wp2_with fail
            go_roundw
            case rel=>exact⟨d-s.size,0,m1+1,rfl,by go_num,congrArg (Value.int .i64) (by rw[HC.out]),by omega,by omega,Lib.hid ⟨HR.out,Or.inl rfl⟩,by trivial⟩
            case measure=>simp[intOf];omega
          ·obtain rfl:m1=q:=by omega
           have u2:decide (m1<m1)=false:=by simp
           have HE:=Lib.hid (show(0,ls.drop m1)=dr (pos ls (k+1)) 0 ls from by
            rw[←HST.out.2.1,←HTG.out,←HI1.out.1,List.drop_of_length_le (by rw[HLL.out];exact Nat.le_refl _),dr_nil];simp)
           go_wp2_with fail
           go_roundw
           case rel=>exact⟨k+1,x.extract nn x.size,_,m1,_,rfl,rfl,rfl,hm1,Lib.hid ⟨HST.out.1,HE.out,HST.out.2.2⟩,hown9,hb7⟩
           case measure=>simp only[strZ];omega
         ·obtain rfl:d=0:=by omega
          have u1:decide (0<0)=false:=rfl
          have HE:=Lib.hid (show(r1,ls.drop m1)=dr (pos ls (k+1)) 0 ls from by
           rw[←HST.out.2.1,←HTG.out,←HI1.out.1,dr_in _ _ _ (Nat.zero_le _)];rfl)
          go_wp2_with fail
          go_roundw
          case rel=>exact⟨k+1,x.extract nn x.size,_,m1,_,rfl,rfl,rfl,hm1,Lib.hid ⟨HST.out.1,HE.out,HST.out.2.2⟩,hown9,hb7⟩
          case measure=>simp only[strZ];omega
       ·have t2:decide (0<r)=false:=decide_eq_false hr0
        clear hq hr0
        go_wp2_with fail
        refine Go.Proofs.YtibjkhepedfpiaaGreatDoor.Rg.region_new [(3,newS 1 5 #[.int .u8 (r:Int)] 0),(4,val (.string (strOfNums [(r:Int)]))),(9,val (.string F)),(11,newS 1 104 #[.int .i64 0,.bool true,.int .i64 0,.bool false,.string F] 0)] 12 (by kernel_rfl) (by kernel_rfl) (by kernel_rfl) (lk_cons newS_inh (lk_cons val_inh (lk_cons val_inh (lk_cons newS_inh lk_nil)))) (lk_cons newS_mono (lk_cons val_mono (lk_cons val_mono (lk_cons newS_mono lk_nil)))) ?_;intro σ hσ;simp only[List.take_succ_cons,List.take_zero,List.drop_succ_cons,List.drop_zero];have hσv:σ 4= .string (strOfNums [(r:Int)]):=hσ 4 _ rfl;have hσd:σ 9= .string F:=hσ 9 _ rfl;refine Go.Proofs.YtibjkhepedfpiaaGreatDoor.Rg.wpN_take 3 (by kernel_rfl) (by kernel_rfl) (by kernel_rfl) ?_;simp only[List.take_succ_cons,List.take_zero,List.drop_succ_cons,List.drop_zero]
        repeat (go_big_quiet_step (fail))
        refine wpQuiet_nil ?_;refine wpN_sp _ rfl (by kernel_rfl) (spAt_newS 1 5 #[.int .u8 (r:Int)] (Nat.zero_le _) (by intro w0;go_simp)) ?_;simp only[Act.put,List.setIfInBounds_toArray,List.set_cons_zero,List.set_cons_succ];refine wpN_sp _ rfl (by kernel_rfl) (spAt_read (fun p hd=>?_)) ?_
        ·obtain⟨g,hg,_,hblk⟩:=dep_at hd 3 rfl (by kernel_rfl)
         have hcv2:=run_convert_bytes_arg (P:=Tryz.prog) (ext _ p) 90 5 Tryz.underlying90 Tryz.underlying5 g 0 1 1 [(r:Int)] rfl (fun j hj=>by
          match j,hj with
          |0,_=>exact Blk.cell hblk 0 rfl) _ Tryz.underlying9
         rw[hg]
         go_simp
        simp only[Act.put,List.setIfInBounds_toArray,List.set_cons_zero,List.set_cons_succ];rw[hσv];refine Go.Proofs.YtibjkhepedfpiaaGreatDoor.Rg.wpN_take 4 (by kernel_rfl) (by kernel_rfl) (by kernel_rfl) ?_;simp only[List.take_succ_cons,List.take_zero,List.drop_succ_cons,List.drop_zero]
        repeat (go_big_quiet_step (fail))
        refine wpQuiet_nil ?_;refine wpN_sp _ rfl (by kernel_rfl) (spAt_val (f:=102) (args:= #[.string Y]) (by intro w0;go_simp) (fun p _=>kf _)) ?_;simp only[Act.put,List.setIfInBounds_toArray,List.set_cons_zero,List.set_cons_succ];rw[hσd];refine Go.Proofs.YtibjkhepedfpiaaGreatDoor.Rg.wpN_take 1 (by kernel_rfl) (by kernel_rfl) (by kernel_rfl) ?_;simp only[List.take_succ_cons,List.take_zero,List.drop_succ_cons,List.drop_zero]
        repeat (go_big_quiet_step (fail))
        refine wpQuiet_nil ?_;refine wpN_sp _ rfl (by kernel_rfl) (spAt_newS 1 104 #[.int .i64 0,.bool true,.int .i64 0,.bool false,.string F] (Nat.zero_le _) (by intro w0;go_simp)) ?_;simp only[Act.put,List.setIfInBounds_toArray,List.set_cons_zero,List.set_cons_succ];refine wpN_nil ?_;rintro w9 ⟨pq,rfl⟩ hp;obtain⟨g9,hg9,_,hb9⟩:=hp 11 _ rfl;rw[hg9];clear hp hσ hσv hσd;have hown0:=own_below hown (below_ext _ pq);have hb1:=hb.trans ((below_ext _ pq).mono hbs);have hsz0:=hb1.size;refine wpList_app rfl _ _ rfl elemR rfl hown0 rfl rfl (blk_news hb9) (by simp[Value.oneCell']) (by omega) (by unfold maxLen;omega) hsz0 ?_;intro v9 w8 hown9 hb8;have hb7:=hb1.trans hb8;clear hown0 hb1 hb8 hb9 hg9 hsz0 hown hb hbs kf ka
        go_wp2_with fail
        have HS8:=Lib.hid (HS.out.below (Nat.le_refl _) hb7)
        go_loopw [6,7,10] (fun rr nx rm wi=> ∃(d r1 m1:Nat),rr= .int .i64 r1∧nx= .int .i64 m1∧rm= .int .i64 d∧m1≤q∧d≤183∧Hid (dr d r1 (ls.drop m1)=dr nn r (ls.drop m)∧(r1=0∨d=0))∧w8=wi) (fun _ nx _ _=>q-(intOf nx).toNat)
        case atStart=>exact⟨nn-r,0,m,rfl,rfl,congrArg (Value.int .i64) (by omega),hm,by omega,Lib.hid ⟨HM.out,Or.inl rfl⟩,by trivial⟩
        case round=>
         obtain⟨d,r1,m1,rfl,rfl,rfl,hm1,hd,HI1,rfl⟩:=hrel;by_cases hd0:0<d
         ·have u1:decide (0<d)=true:=decide_eq_true hd0
          obtain rfl:r1=0:=by rcases HI1.out.2 with h|h<;>omega
          by_cases hmq:m1<q
          ·have u2:decide (m1<q)=true:=decide_eq_true hmq
           obtain⟨s,hs⟩: ∃s,S[m1]? =some s:=⟨_,List.getElem?_eq_getElem (by rw[HN.out];exact hmq)⟩;obtain⟨b0,o0,ea,hlt,hc⟩:=HS8.out m1 s hs;subst ea;have c0:w8.cell? ⟨b0,o0+m1,none⟩=some (.string s):=hc 0 _ rfl;have k0:(0:Int)≤(m1:Int):=Int.natCast_nonneg _;have k1:(m1:Int)<(q:Int):=by omega
           have hdr:ls.drop m1=s.size::ls.drop (m1+1):=by
            rw[List.drop_eq_getElem_cons (by rw[HLL.out];exact hmq)]
            congr 1
            have:ls[m1]? =some s.size:=by rw[←HL.out,List.getElem?_map,hs];rfl
            exact(List.getElem?_eq_some_iff.1 this).2
           have hsB:(s.size:Int)≤1099511627776:=by
            have h1:=HZ.out;have h2:s.size∈ls:=by rw[←HL.out];exact List.mem_map_of_mem (List.mem_of_getElem? hs)
            have h3:=mem_le h2;rw[HT.out]at h3;omega
           by_cases hds:d<s.size
           ·have u3:decide (d<s.size)=true:=decide_eq_true hds
            have HR:=Lib.hid (show dr 0 (s.size-d) (ls.drop (m1+1))=dr nn r (ls.drop m)from by
             rw[←HI1.out.1,hdr,dr_in _ _ _ (Nat.zero_le _)];rcases dr_long d s.size (ls.drop (m1+1)) hds with h|h
             ·rw[h];rfl
             ·omega)
            have hcst:((s.size-d:Nat):Int)=(s.size:Int)-(d:Int):=by omega
            have HC:=Lib.hid hcst;clear hc hs hdr hcst
            go_wp2_with fail
            go_roundw
            case rel=>exact⟨0,s.size-d,m1+1,congrArg (Value.int .i64) (by rw[HC.out]),by go_num,rfl,by omega,by omega,Lib.hid ⟨HR.out,Or.inr rfl⟩,by trivial⟩
            case measure=>simp[intOf];omega
           ·have u3:decide (d<s.size)=false:=decide_eq_false hds
            have HR:=Lib.hid (show dr (d-s.size) 0 (ls.drop (m1+1))=dr nn r (ls.drop m)from by
             rw[←HI1.out.1,hdr,dr_short _ _ _ (by omega) hd0])
            have hcst:((d-s.size:Nat):Int)=(d:Int)-(s.size:Int):=by omega
            have HC:=Lib.hid hcst;clear hc hs hdr hcst
            go_wp2_with fail
            go_roundw
            case rel=>exact⟨d-s.size,0,m1+1,rfl,by go_num,congrArg (Value.int .i64) (by rw[HC.out]),by omega,by omega,Lib.hid ⟨HR.out,Or.inl rfl⟩,by trivial⟩
            case measure=>simp[intOf];omega
          ·obtain rfl:m1=q:=by omega
           have u2:decide (m1<m1)=false:=by simp
           have HE:=Lib.hid (show(0,ls.drop m1)=dr (pos ls (k+1)) 0 ls from by
            rw[←HST.out.2.1,←HTG.out,←HI1.out.1,List.drop_of_length_le (by rw[HLL.out];exact Nat.le_refl _),dr_nil];simp)
           go_wp2_with fail
           go_roundw
           case rel=>exact⟨k+1,x.extract nn x.size,_,m1,_,rfl,rfl,rfl,hm1,Lib.hid ⟨HST.out.1,HE.out,HST.out.2.2⟩,hown9,hb7⟩
           case measure=>simp only[strZ];omega
         ·obtain rfl:d=0:=by omega
          have u1:decide (0<0)=false:=rfl
          have HE:=Lib.hid (show(r1,ls.drop m1)=dr (pos ls (k+1)) 0 ls from by
           rw[←HST.out.2.1,←HTG.out,←HI1.out.1,dr_in _ _ _ (Nat.zero_le _)];rfl)
          go_wp2_with fail
          go_roundw
          case rel=>exact⟨k+1,x.extract nn x.size,_,m1,_,rfl,rfl,rfl,hm1,Lib.hid ⟨HST.out.1,HE.out,HST.out.2.2⟩,hown9,hb7⟩
          case measure=>simp only[strZ];omega
    ·have t0:decide (0<x.size)=false:=decide_eq_false hx0
     have HK:=Lib.hid (show nP ls=k from Steps.eq ⟨by rw[HT.out];have:=HI.out.1;omega,by rw[HT.out];exact HI.out.2.2⟩);obtain⟨ao,co,rfl⟩:=own_form hown
     go_wp2_with fail
     go_ret;exact⟨hb,ao,co,by rw[HL.out,HK.out];rfl⟩
end Go.Proofs.YtibjkhepedfpiaaGreatDoor.SlV
namespace Go.Proofs.YtibjkhepedfpiaaGreatDoor.SlW
open Go Go.RowKit Q Mem Rg Ap ApG St CrB PaA PaK PaP SlM SlP SlR SlS SlV
set_option maxRecDepth 100000
theorem lright_any (p s:Int) (w:World):Calls Tryz.prog 30 #[.int .i64 p,.int .i64 s] w fun e w'=>e= .returned (.bool (decide (rightP p s)))∧w=w':=by
 have HR:=Lib.hid (show decide (rightP p s)=(decide (0≤p)&&(decide (p≤8190)&&(decide (0≤s)&&decide (s≤1048576))))from by
  unfold rightP;by_cases h1:0≤p<;>by_cases h2:p≤8190<;>by_cases h3:0≤s<;>by_cases h4:s≤1048576<;>simp[h1,h2,h3,h4])
 obtain⟨R,hR⟩: ∃R,decide (rightP p s)=R:=⟨_,rfl⟩;rw[hR]at HR ⊢;clear hR
 go_enter Tryz.func30,Tryz.ntmps30
 go_wp2_with fail
 all_goals
  go_ret;refine⟨?_,rfl⟩;rw[HR.out]
  simp_all
  try omega
set_option maxHeartbeats 1600000 in
theorem lmany_any (a:Option Addr) (n c:Nat) (S:List ByteArray) (w:World) (hn:S.length=n) (hl:n≤100000) (hS:Seq enS 1 w a S) (hz:(S.map ByteArray.size).sum≤1099511627776):
 Calls Tryz.prog 31 #[.slice a n c] w fun e w'=>e= .returned (.tuple #[.int .i64 (manyN S:Int),.int .i64 (manyE S)])∧Below w.heap.size w w':=by
 by_cases h0:n=0
 ·subst h0
  have HE:=Lib.hid (show manyE S=18∧manyN S=0 from by
   have:manyE S=18:=if_pos hn;exact⟨this,if_neg (by rw[this];decide)⟩)
  clear hS hz
  go_enter Tryz.func31,Tryz.ntmps31
  go_wp2_with fail
  go_ret2
  exact⟨by rw[HE.out.1,HE.out.2];rfl,Below.refl _ _⟩
 ·have t0:((n:Int)==0)=false:=by simp;omega
  have t1:(n==0)=false:=by simp;omega
  have HM:=Lib.hid (show manyE S=firstE S from if_neg (by omega));have HS:=Lib.hid hS;have HN:=Lib.hid hn;have HZ:=Lib.hid hz;clear hS hn hz h0
  go_enter Tryz.func31,Tryz.ntmps31
  go_wp2_with fail
  go_loopw [4] (fun i wr=> ∃q:Nat,q≤n∧i= .int .i64 q∧Hid (firstE (S.take q)=0)∧Below w.heap.size w wr) (fun i _=>n-(intOf i).toNat)
  case atStart=>exact⟨0,by omega,rfl,Lib.hid (by first|trivial|rfl),Below.refl _ _⟩
  case round=>
   obtain⟨q,hq,rfl,hf,hb⟩:=hrel;by_cases hqn:q<n
   ·have t2:decide (q<n)=true:=decide_eq_true hqn
    obtain⟨s,hs⟩: ∃s,S[q]? =some s:=⟨_,List.getElem?_eq_getElem (by rw[HN.out];exact hqn)⟩;obtain⟨b0,o0,rfl,hlt,hc⟩:=(HS.out.below (Nat.le_refl _) hb) q s hs;have c0:wr.cell? ⟨b0,o0+q,none⟩=some (.string s):=hc 0 _ rfl;have k0:(0:Int)≤(q:Int):=Int.natCast_nonneg _;have k1:(q:Int)<(n:Int):=by omega
    have kc:=fun V=>rcheck_any s V;have HFT:=Lib.hid (first_take hs hf.out);obtain⟨E,hE⟩: ∃E,paE s=E:=⟨_,rfl⟩;rw[hE]at kc HFT;have hbs:=hb.size;clear hc hs hE;by_cases hE0:E=0
    ·subst hE0
     go_wp2_with fail
     (with_reducible refine(kc _).mono ?_);rintro e1 W1 ⟨rfl,hb1⟩
     have hb2:=hb.trans (hb1.mono hbs)
     go_wp2_with fail
     go_roundw
     case rel=>exact⟨q+1,by omega,by go_num,Lib.hid (HFT.out.1 (by first|trivial|rfl)),hb2⟩
     case measure=>simp[intOf];omega
    ·have t3:(E==0)=false:=beq_eq_false_iff_ne.2 hE0
     have HX:=Lib.hid (show manyE S=E∧manyN S=0 from by
      have h1:manyE S=E:=by rw[HM.out];exact HFT.out.2 hE0
      exact⟨h1,if_neg (by rw[h1];exact hE0)⟩)
     clear hE0
     go_wp2_with fail
     (with_reducible refine(kc _).mono ?_);rintro e1 W1 ⟨rfl,hb1⟩
     have hb2:=hb.trans (hb1.mono hbs)
     go_wp2_with fail
     go_ret2
     exact⟨by rw[HX.out.1,HX.out.2];rfl,hb2⟩
   ·obtain rfl:q=n:=by omega
    have t2:decide (q<q)=false:=by simp
    have hf0:firstE S=0:=by have:=hf.out;rwa [List.take_of_length_le (by rw[HN.out];exact Nat.le_refl _)]at this
    have kb:=bodies_any a q c S wr HN.out hl (HS.out.below (Nat.le_refl _) hb) (size_pos (first_ok hf0)) HZ.out
    have HX:=Lib.hid (show manyE S=0∧manyN S=nP (S.map ByteArray.size)from by
     have h1:manyE S=0:=by rw[HM.out];exact hf0
     exact⟨h1,if_pos h1⟩)
    obtain⟨K,hK⟩: ∃K,nP (S.map ByteArray.size)=K:=⟨_,rfl⟩;rw[hK]at kb HX;have hbs:=hb.size;clear hf0 hK
    go_wp2_with fail
    (with_reducible refine(kb).mono ?_);rintro e1 W1 ⟨hb1,ao,co,rfl⟩
    have hb2:=hb.trans (hb1.mono hbs)
    go_wp2_with fail
    go_ret2
    exact⟨by rw[HX.out.1,HX.out.2];rfl,hb2⟩
set_option maxHeartbeats 1600000 in
theorem same_any (a1 a2:Option Addr) (n1 c1 n2 c2:Nat) (S1 S2:List ByteArray) (w:World) (h1:S1.length=n1) (h2:S2.length=n2) (hl:n1≤100000) (hS1:Seq enS 1 w a1 S1) (hS2:Seq enS 1 w a2 S2):
 Calls Tryz.prog 12 #[.slice a1 n1 c1,.slice a2 n2 c2] w fun e w'=>e= .returned (.bool (decide (S1=S2)))∧Below w.heap.size w w':=by
 by_cases hne:n1=n2
 ·subst hne
  have t0:(n1==n1)=true:=beq_self_eq_true n1;have t0':((n1:Int)==(n1:Int))=true:=beq_self_eq_true _;have HS:=Lib.hid (And.intro hS1 hS2);have HN:=Lib.hid (And.intro h1 h2);clear hS1 hS2 h1 h2
  go_enter Tryz.func12,Tryz.ntmps12
  go_wp2_with fail
  go_loopw [5] (fun i wr=> ∃q:Nat,q≤n1∧i= .int .i64 q∧Hid (S1.take q=S2.take q)∧Below w.heap.size w wr) (fun i _=>n1-(intOf i).toNat)
  case atStart=>exact⟨0,by omega,rfl,Lib.hid (by first|trivial|rfl),Below.refl _ _⟩
  case round=>
   obtain⟨q,hq,rfl,hf,hb⟩:=hrel;by_cases hqn:q<n1
   ·have t2:decide (q<n1)=true:=decide_eq_true hqn
    obtain⟨s,hs⟩: ∃s,S1[q]? =some s:=⟨_,List.getElem?_eq_getElem (by rw[HN.out.1];exact hqn)⟩;obtain⟨u,hu⟩: ∃s,S2[q]? =some s:=⟨_,List.getElem?_eq_getElem (by rw[HN.out.2];exact hqn)⟩;obtain⟨b0,o0,rfl,hlt,hc⟩:=(HS.out.1.below (Nat.le_refl _) hb) q s hs;obtain⟨b1,o1,rfl,hlt1,hc1⟩:=(HS.out.2.below (Nat.le_refl _) hb) q u hu;have c0:wr.cell? ⟨b0,o0+q,none⟩=some (.string s):=hc 0 _ rfl;have c1:wr.cell? ⟨b1,o1+q,none⟩=some (.string u):=hc1 0 _ rfl;have d0:=fun p=>cell_ext hlt c0 p;have d1:=fun p=>cell_ext hlt1 c1 p;have k0:(0:Int)≤(q:Int):=Int.natCast_nonneg _;have k1:(q:Int)<(n1:Int):=by omega
    have HSU:=Lib.hid (And.intro hs hu);clear hc hc1 hs hu c0 c1;by_cases he:s=u
    ·subst he
     have t3:(s.toList==s.toList)=true:=beq_self_eq_true _
     go_wp2_with fail
     refine Go.Proofs.YtibjkhepedfpiaaGreatDoor.Q.region_ext (by kernel_rfl) (by kernel_rfl) ?_
     repeat (go_big_quiet_step (fail))
     refine wpQuiet_nil ?_;rintro w9 ⟨pq,rfl⟩;have hb2:=hb.trans ((below_ext wr pq).mono hb.size);have HX:=Lib.hid (show S1.take (q+1)=S2.take (q+1)from by rw[List.take_add_one,List.take_add_one,HSU.out.1,HSU.out.2,hf.out])
     go_wp2_with fail
     go_roundw
     case rel=>exact⟨q+1,by omega,by go_num,HX,hb2⟩
     case measure=>simp[intOf];omega
    ·have t3:(s.toList==u.toList)=false:=beq_eq_false_iff_ne.2 (fun h=>he (by apply ByteArray.ext;apply Array.toList_inj.1;rw[ByteArray.toList_eq,ByteArray.toList_eq]at h;exact h))
     have HX:=Lib.hid (show decide (S1=S2)=false from decide_eq_false (fun h=>he (by have h1:=HSU.out.1;rw[h,HSU.out.2]at h1;injection h1 with h1;exact h1.symm)))
     go_wp2_with fail
     refine Go.Proofs.YtibjkhepedfpiaaGreatDoor.Q.region_ext (by kernel_rfl) (by kernel_rfl) ?_
     repeat (go_big_quiet_step (fail))
     refine wpQuiet_nil ?_;rintro w9 ⟨pq,rfl⟩;have hb2:=hb.trans ((below_ext wr pq).mono hb.size)
     go_wp2_with fail
     go_ret;exact⟨by rw[HX.out];rfl,hb2⟩
   ·obtain rfl:q=n1:=by omega
    have t2:decide (q<q)=false:=by simp
    have HX:=Lib.hid (show decide (S1=S2)=true from decide_eq_true (by
     have:=hf.out
     rwa [List.take_of_length_le (by rw[HN.out.1];exact Nat.le_refl _),List.take_of_length_le (by rw[HN.out.2];exact Nat.le_refl _)]at this))
    go_wp2_with fail
    go_ret;exact⟨by rw[HX.out];rfl,hb⟩
 ·have t0:(n1==n2)=false:=beq_eq_false_iff_ne.2 hne
  have t0':((n1:Int)==(n2:Int))=false:=beq_eq_false_iff_ne.2 (by omega);have HX:=Lib.hid (show decide (S1=S2)=false from decide_eq_false (fun h=>hne (by rw[←h1,←h2,h])));clear hS1 hS2 h1 h2 hne
  go_enter Tryz.func12,Tryz.ntmps12
  go_wp2_with fail
  go_ret;exact⟨by rw[HX.out];rfl,Below.refl _ _⟩
noncomputable def checkE:Int→List Br→Int
 |_,[]=>0
 |e,b::t=>if ¬rightP b.pid b.at_ then 15 else if manyE b.S≠0 then manyE b.S else if b.at_<e then 22 else checkE (b.at_+manyN b.S) t
set_option maxHeartbeats 3200000 in
theorem check_any (a:Option Addr) (n c:Nat) (L:List Bu) (w:World) (hn:L.length=n) (hl:n≤100000) (hL:Seq enBu 3 w a L) (hok: ∀x∈L,BuOk w x) (hsm: ∀x∈L,Small x.b):
 Calls Tryz.prog 32 #[.slice a n c] w fun e w'=>e= .returned (.int .i64 (checkE 0 (L.map Bu.b)))∧Below w.heap.size w w':=by
 have HL:=Lib.hid hL;have HN:=Lib.hid hn;have HO:=Lib.hid hok;have HSm:=Lib.hid hsm;clear hL hn hok hsm
 go_enter Tryz.func32,Tryz.ntmps32
 go_wp2_with fail
 go_loopw [3,10] (fun en i wr=> ∃(q:Nat) (e:Int),q≤n∧i= .int .i64 q∧en= .int .i64 e∧Hid (0≤e∧e≤1080000∧checkE e ((L.map Bu.b).drop q)=checkE 0 (L.map Bu.b))∧Below w.heap.size w wr) (fun _ i _=>n-(intOf i).toNat)
 case atStart=>exact⟨0,0,by omega,rfl,rfl,Lib.hid ⟨by decide,by decide,rfl⟩,Below.refl _ _⟩
 case round=>
  obtain⟨q,e,hq,rfl,rfl,HE,hb⟩:=hrel;by_cases hqn:q<n
  ·have t1:decide (q<n)=true:=decide_eq_true hqn
   obtain⟨x,hx⟩: ∃x,L[q]? =some x:=⟨_,List.getElem?_eq_getElem (by rw[HN.out];exact hqn)⟩;obtain⟨b0,o0,rfl,hlt,hc⟩:=(HL.out.below (Nat.le_refl _) hb) q x hx;have k0:(0:Int)≤(q:Int):=Int.natCast_nonneg _;have k1:(q:Int)<(n:Int):=by omega
   have c0:=hc 0 _ rfl;have c1:=hc 1 _ rfl;have c2:=hc 2 _ rfl;rw[off_eq]at c0 c1 c2;rw[Nat.add_zero]at c0;obtain⟨hsq,hcap⟩:=HO.out x (List.mem_of_getElem? hx);obtain⟨h8,h5⟩:=HSm.out x (List.mem_of_getElem? hx)
   have hdr:(L.map Bu.b).drop q=x.b::(L.map Bu.b).drop (q+1):=by
    rw[List.drop_eq_getElem_cons (by rw[List.length_map,HN.out];exact hqn)]
    congr 1
    rw[List.getElem_map];have:=List.getElem?_eq_some_iff.1 hx;rw[this.2]
   have HDR:=Lib.hid hdr;obtain⟨⟨pid,at_,S⟩,sa,sc⟩:=x;dsimp only at c0 c1 c2 hsq hcap h8 h5;have hbk:=Blk.new wr 36 #[.int .i64 pid,.int .i64 at_,.slice sa S.length sc];obtain⟨ns,hns⟩: ∃ns,S.length=ns:=⟨_,rfl⟩;rw[hns]at hbk c2 hcap h8;clear hc hx hdr;have k1:=right_any pid at_ (wr.alloc (.cells #[.int .i64 pid,.int .i64 at_,.slice sa ns sc] 36));have hb1:=hb.alloc hb.size (.cells #[.int .i64 pid,.int .i64 at_,.slice sa ns sc] 36);have hE1:checkE 0 (L.map Bu.b)=checkE e (⟨pid,at_,S⟩::(L.map Bu.b).drop (q+1)):=by rw[←HDR.out,HE.out.2.2]
   rw[checkE]at hE1;by_cases hr:rightP pid at_
   ·rw[decide_eq_true hr]at k1
    rw[if_neg (by simpa using hr)]at hE1;have hsq1:=(hsq.below (Nat.le_refl _) hb).below (Nat.le_refl _) ((Below.refl wr.heap.size wr).alloc (Nat.le_refl _) (.cells #[.int .i64 pid,.int .i64 at_,.slice sa ns sc] 36));have km:=many_any sa ns sc S _ hns (by omega) hcap hsq1 (fun s hs=>by have:=h5 s hs;omega);have hNB:=manyN_le h5;rw[hns]at hNB;obtain⟨F,hF⟩: ∃F,manyE S=F:=⟨_,rfl⟩;obtain⟨N,hNN⟩: ∃N,manyN S=N:=⟨_,rfl⟩;rw[hF,hNN]at km hE1;rw[hNN]at hNB;have hN3:N≤30000:=by omega
    have hr0:=hr.2.2.1;have hr9:=hr.2.2.2;clear hr hF hNN hNB;by_cases hF0:F=0
    ·subst hF0
     rw[if_neg (by decide)]at hE1;by_cases hmo:at_<e
     ·have t3:decide (at_<e)=true:=decide_eq_true hmo
      rw[if_pos hmo]at hE1;have HE1:=Lib.hid hE1;clear hE1 hmo
      go_wp2_with fail
      (with_reducible refine(k1).mono ?_);rintro e1 W1 ⟨rfl,rfl⟩
      go_wp2_with fail
      (with_reducible refine(km).mono ?_);rintro e1 W2 ⟨rfl,hb2⟩
      have hb3:=hb1.trans (hb2.mono hb1.size);have hbk2:=Blk.below hbk hb2 (Blk.lt hbk);have d0:=Blk.cell (hbk2) 0 (v:= .int .i64 pid) rfl;have d1:=Blk.cell (hbk2) 1 (v:= .int .i64 at_) rfl;have d2:=Blk.cell (hbk2) 2 (v:= .slice sa ns sc) rfl
      go_wp2_with fail
      go_ret;exact⟨by rw[HE1.out];rfl,hb3⟩
     ·have t3:decide (at_<e)=false:=decide_eq_false hmo
      rw[if_neg hmo]at hE1;have HE1:=Lib.hid (show checkE (at_+N) ((L.map Bu.b).drop (q+1))=checkE 0 (L.map Bu.b)from hE1.symm);have hN0:(0:Int)≤(N:Int):=Int.natCast_nonneg _;have hN9:(N:Int)≤30000:=by omega
      clear hE1 hmo
      go_wp2_with fail
      (with_reducible refine(k1).mono ?_);rintro e1 W1 ⟨rfl,rfl⟩
      go_wp2_with fail
      (with_reducible refine(km).mono ?_);rintro e1 W2 ⟨rfl,hb2⟩
      have hb3:=hb1.trans (hb2.mono hb1.size);have hbk2:=Blk.below hbk hb2 (Blk.lt hbk);have d0:=Blk.cell (hbk2) 0 (v:= .int .i64 pid) rfl;have d1:=Blk.cell (hbk2) 1 (v:= .int .i64 at_) rfl;have d2:=Blk.cell (hbk2) 2 (v:= .slice sa ns sc) rfl
      go_wp2_with fail
      go_roundw
      case rel=>exact⟨q+1,at_+N,by omega,by go_num,rfl,Lib.hid ⟨by omega,by omega,HE1.out⟩,hb3⟩
      case measure=>simp[intOf];omega
    ·have t2:(F==0)=false:=beq_eq_false_iff_ne.2 hF0
     rw[if_pos hF0]at hE1;have HE1:=Lib.hid hE1;clear hE1 hF0
     go_wp2_with fail
     (with_reducible refine(k1).mono ?_);rintro e1 W1 ⟨rfl,rfl⟩
     go_wp2_with fail
     (with_reducible refine(km).mono ?_);rintro e1 W2 ⟨rfl,hb2⟩
     have hb3:=hb1.trans (hb2.mono hb1.size);have hbk2:=Blk.below hbk hb2 (Blk.lt hbk);have d0:=Blk.cell (hbk2) 0 (v:= .int .i64 pid) rfl;have d1:=Blk.cell (hbk2) 1 (v:= .int .i64 at_) rfl;have d2:=Blk.cell (hbk2) 2 (v:= .slice sa ns sc) rfl
     go_wp2_with fail
     go_ret;exact⟨by rw[HE1.out];rfl,hb3⟩
   ·rw[decide_eq_false hr]at k1
    rw[if_pos hr]at hE1;have HE1:=Lib.hid hE1;clear hr hE1
    go_wp2_with fail
    (with_reducible refine(k1).mono ?_);rintro e1 W1 ⟨rfl,rfl⟩
    have hb3:=hb1
    go_wp2_with fail
    go_ret;exact⟨by rw[HE1.out];rfl,hb3⟩
  ·obtain rfl:q=n:=by omega
   have t1:decide (q<q)=false:=by simp
   have HX:=Lib.hid (show checkE 0 (L.map Bu.b)=0 from by
    rw[←HE.out.2.2,List.drop_of_length_le (by rw[List.length_map,HN.out];exact Nat.le_refl _)];rfl)
   go_wp2_with fail
   go_ret;exact⟨by rw[HX.out];rfl,hb⟩
end Go.Proofs.YtibjkhepedfpiaaGreatDoor.SlW
namespace Go.Proofs.YtibjkhepedfpiaaGreatDoor.SlX
open Go Go.RowKit Q Mem Rg Ap ApG CrB PaA PaK SlM SlS SlW
def Off (wr:World) (v1 v2:Value) (d:Bu):Prop:=BuOk wr d∧ ∀b o,d.a=some ⟨b,o,none⟩→v1.ownBlock≠some b∧v2.ownBlock≠some b∧b<wr.heap.size
structure Rws (w wr:World) (t1 t2:TypeId) (v1 v2:Value) (D W:List Bu):Prop where
 o1:wr.ownsRow w.heap.size t1 3 v1 D.length (flat enBu D)
 o2:wr.ownsRow w.heap.size t2 3 v2 W.length (flat enBu W)
 ap: ∀r,v1.ownBlock=some r→v2.ownBlock≠some r
 d1: ∀d∈D,Off wr v1 v2 d
 d2: ∀d∈W,Off wr v1 v2 d
 be:Below w.heap.size w wr
variable {w wr wr':World} {t1 t2:TypeId} {v1 v2 v':Value} {D W:List Bu} {d:Bu}
theorem Off.swap (h:Off wr v1 v2 d):Off wr v2 v1 d:=⟨h.1,fun b o e=>⟨(h.2 b o e).2.1,(h.2 b o e).1,(h.2 b o e).2.2⟩⟩
theorem Rws.swap (h:Rws w wr t1 t2 v1 v2 D W):Rws w wr t2 t1 v2 v1 W D:=⟨h.o2,h.o1,apart_symm h.ap,fun d hd=>(h.d2 d hd).swap,fun d hd=>(h.d1 d hd).swap,h.be⟩
theorem Off.below (h:Off wr v1 v2 d) (hb:Below wr.heap.size wr wr'):Off wr' v1 v2 d:=
 ⟨h.1.below (Nat.le_refl _) hb,fun b o e=>⟨(h.2 b o e).1,(h.2 b o e).2.1,Nat.lt_of_lt_of_le (h.2 b o e).2.2 hb.size⟩⟩
theorem Rws.below (h:Rws w wr t1 t2 v1 v2 D W) (hb:Below wr.heap.size wr wr'):Rws w wr' t1 t2 v1 v2 D W:=
 ⟨own_below h.o1 hb,own_below h.o2 hb,h.ap,fun d hd=>(h.d1 d hd).below hb,fun d hd=>(h.d2 d hd).below hb,h.be.trans (hb.mono h.be.size)⟩
theorem rows_nil (w:World) (t1 t2:TypeId):Rws w w t1 t2 (.slice none 0 0) (.slice none 0 0) [] []:=
 ⟨World.ownsRow_nil _ _ _ _,World.ownsRow_nil _ _ _ _,fun r h=>(by cases h),fun d h=>(by cases h),fun d h=>(by cases h),Below.refl _ _⟩
theorem Off.grown (h:Off wr v1 v2 d) (hg:wr.grownBy wr' v1.ownBlock) (hat:v'.ownBlock=v1.ownBlock∨v'.ownBlock=some wr.heap.size):Off wr' v' v2 d:=by
 refine⟨⟨seq_only h.1.s hg (fun b o e=>(h.2 b o e).1),h.1.c⟩,fun b o e=>?_⟩;obtain⟨h1,h2,h3⟩:=h.2 b o e;refine⟨fun e2=>?_,h2,Nat.lt_of_lt_of_le h3 hg.size⟩;rcases hat with e1|e1
 ·exact h1 (e1▸e2)
 ·rw[e1]at e2;injection e2 with e2;omega
theorem Rws.add1 (h:Rws w wr t1 t2 v1 v2 D W) (hd:Off wr v1 v2 d) (ho:wr'.ownsRow w.heap.size t1 3 v' (D.length+1) (flat enBu D++enBu d)) (hg:wr.grownBy wr' v1.ownBlock)
 (hat:v'.ownBlock=v1.ownBlock∨v'.ownBlock=some wr.heap.size):Rws w wr' t1 t2 v' v2 (D++[d]) W:=by
 have hbe:=h.be.grown hg h.be.size (fun r er=>(h.o1.lt r er).1);refine⟨?_,own_other h.o2 hg h.ap,?_,fun x hx=>?_,fun x hx=>(h.d2 x hx).grown hg hat,hbe⟩
 ·rw[List.length_append,flat_app,show flat enBu [d]=enBu d by simp[flat]]
  exact ho
 ·exact apart_symm (apart_step hat (fun r hr=>(h.o2.lt r hr).2) h.ap)
 ·rcases List.mem_append.1 hx with hx|hx
  ·exact(h.d1 x hx).grown hg hat
  ·simp only[List.mem_singleton]at hx
   subst hx;exact hd.grown hg hat
theorem Rws.add2 (h:Rws w wr t1 t2 v1 v2 D W) (hd:Off wr v1 v2 d) (ho:wr'.ownsRow w.heap.size t2 3 v' (W.length+1) (flat enBu W++enBu d)) (hg:wr.grownBy wr' v2.ownBlock)
 (hat:v'.ownBlock=v2.ownBlock∨v'.ownBlock=some wr.heap.size):Rws w wr' t1 t2 v1 v' D (W++[d]):=(h.swap.add1 hd.swap ho hg hat).swap
theorem off_new {n c:Nat} {b:Br} {a:Option Addr} {w0:World} {e:TypeId} (h:Rws w wr t1 t2 v1 v2 D W) (ho:w0.ownsRow wr.heap.size e 1 (.slice a n c) n (flat enS b.S)) (hn:b.S.length=n):Off w0 v1 v2 ⟨b,a,c⟩:=by
 obtain⟨a',c',e1,hc⟩:=own_cap ho;injection e1 with e1 e2 e3
 subst e1 e3;refine⟨⟨own_seq enS_len ho hn,by show b.S.length≤c;omega⟩,fun b' o e=>?_⟩;obtain⟨h1,h2⟩:=ho.lt b' (by rw[show a=some ⟨b',o,none⟩from e];rfl);refine⟨fun h'=>?_,fun h'=>?_,h2⟩
 ·have:=(h.o1.lt _ h').2;omega
 ·have:=(h.o2.lt _ h').2;omega
end Go.Proofs.YtibjkhepedfpiaaGreatDoor.SlX
