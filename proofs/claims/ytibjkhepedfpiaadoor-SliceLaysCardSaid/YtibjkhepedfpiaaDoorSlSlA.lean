import Derived.Test.YtibjkhepedfpiaaDoorSlSlM
import Derived.Test.YtibjkhepedfpiaaDoorSlMpS
namespace Go.Proofs.YtibjkhepedfpiaaDoor.SlA
open Go Go.RowKit Q Mem Rg Ap St CrB CrC CrD BiW BiG SeEq SeI SeC SeD TmA DgC DgM DgN MpA MpS
structure Pc where
 n:Int
 table:Nat
 b:Nat
 gram:Bool
 text:ByteArray
def Pc.vals (p:Pc):Array Value:= #[.int .i64 p.n,.int .u8 (p.table:Int),.int .u8 (p.b:Int),.bool p.gram,.string p.text]
def Pc.len (p:Pc):Nat:=(max 0 (min p.n 4000)).toNat
def bodyL (b k:Nat):List UInt8:=(List.range k).map fun i=>UInt8.ofNat ((b+i%5)%256)
theorem body_len (b k:Nat):(bodyL b k).length=k:=by simp[bodyL]
theorem body_succ (b k:Nat):bodyL b (k+1)=bodyL b k++[UInt8.ofNat ((b+k%5)%256)]:=by simp[bodyL,List.range_succ]
def gramP (b k:Nat):Mp:=⟨3,⟨9,false,false,(b:Int)⟩,mkD ⟨#[97,98,99,100]⟩ ⟨#[101,102,103,104]⟩ 17 (str (bodyL b k))⟩
theorem gramP_ok (b k:Nat) (hb:b<256) (hk:k≤4000):(gramP b k).chk=0:=by
 have h:=(mk_ok ⟨#[97,98,99,100]⟩ ⟨#[101,102,103,104]⟩ (str (bodyL b k)) 17 rfl rfl (by rw[←bl_len,bl_str,body_len];omega)).1;unfold Mp.chk;rw[if_pos]
 ·exact h
 ·unfold gramP Mp.ok Ti.ok
  refine⟨⟨?_,?_⟩,⟨⟨?_,?_⟩,⟨?_,?_⟩⟩⟩<;>dsimp only<;>omega
def tabL (t k:Nat):List UInt8:=[UInt8.ofNat t,UInt8.ofNat (176+(k+9)/256),UInt8.ofNat ((k+9)%256),0,1,193,0,0]
def Pc.bytes (p:Pc):ByteArray:=if p.text.size=0 then(if p.gram then bytesS (gramP p.b p.len).sec else str (sealL (tabL p.table p.len++bodyL p.b p.len)))else p.text
set_option maxRecDepth 100000
set_option maxHeartbeats 3200000 in
theorem made_any (p:Pc) (w:World) (ht:p.table<256) (hb:p.b<256):Calls Tryd.prog 15 #[.agg p.vals] w fun e w'=>e= .returned (.string p.bytes)∧Below w.heap.size w w':=by
 obtain⟨n,t,b,g,x⟩:=p;have HY:=Lib.hid (show Pc.bytes ⟨n,t,b,g,x⟩=if x.size=0 then(if g then bytesS (gramP b (Pc.len ⟨n,t,b,g,x⟩)).sec else str (sealL (tabL t (Pc.len ⟨n,t,b,g,x⟩)++bodyL b (Pc.len ⟨n,t,b,g,x⟩))))else x from rfl);unfold Pc.vals;dsimp only at*;have hB0:=Blk.new w 50 #[.int .i64 n,.int .u8 (t:Int),.int .u8 (b:Int),.bool g,.string x];have c0:=Blk.cell (hB0) 0 (v:= .int .i64 n) rfl;have c1:=Blk.cell (hB0) 1 (v:= .int .u8 (t:Int)) rfl;have c2:=Blk.cell (hB0) 2 (v:= .int .u8 (b:Int)) rfl;have c3:=Blk.cell (hB0) 3 (v:= .bool g) rfl;have c4:=Blk.cell (hB0) 4 (v:= .string x) rfl;have HB0:=Lib.hid hB0;by_cases hx:x.size=0
 ·have t0:x.toList.isEmpty=true:=by rw[isEmpty_iff];simpa using hx
  obtain⟨k,hk⟩: ∃k,(max 0 (min n 4000)).toNat=k:=⟨_,rfl⟩;obtain⟨m,hm⟩: ∃m,min n 4000=m:=⟨_,rfl⟩
  have hmn: ∀(ts:Array TypeId) (ty:TypeId) (V:World),(Builtin.min_ ts ty #[.int .i64 n,.int .i64 4000]).run Tryd.prog V= .ok (.int .i64 m) V:=fun ts ty V=>by
   rw[run_min_int2]
   congr 2
   split<;>omega
  have hmx: ∀(ts:Array TypeId) (ty:TypeId) (V:World),(Builtin.max_ ts ty #[.int .i64 0,.int .i64 m]).run Tryd.prog V= .ok (.int .i64 (k:Int)) V:=fun ts ty V=>by
   rw[run_max_int2]
   congr 2
   split<;>omega
  have hk4:k≤4000:=by omega
  have hln:Pc.len ⟨n,t,b,g,x⟩=k:=hk;have HZ:=Lib.hid (HY.out.trans (by rw[if_pos hx,hln]));have hmk:=fun V=>mk_bytes k (by omega) V;clear hk hm hx hB0 HY hln
  go_enter Tryd.func15,Tryd.ntmps15
  go_wp2_with fail
  refine wp_gen (fun W=>Blk W w.heap.size 50 #[.int .i64 n,.int .u8 (t:Int),.int .u8 (b:Int),.bool g,.string x]∧Blk W (w.heap.size+1) 5 (rowB [] k)∧Below w.heap.size w W) ⟨Blk.alloc HB0.out _,Blk.newAt _ _ _ (by simp),((Below.refl _ _).alloc (Nat.le_refl _) _).alloc (by simp) _⟩ ?_;rintro W0 ⟨h0,h1,h2⟩;clear c0 c1 c2 c3 c4 HB0 hmn hmx hmk
  go_loopw [4] (fun i wr=> ∃q:Nat,q≤k∧i= .int .i64 q∧Hid (Blk wr w.heap.size 50 #[.int .i64 n,.int .u8 (t:Int),.int .u8 (b:Int),.bool g,.string x]∧Blk wr (w.heap.size+1) 5 (rowB (bodyL b q) (k-q))∧Below w.heap.size w wr)) (fun i _=>k-(intOf i).toNat)
  case atStart=>exact⟨0,by omega,rfl,Lib.hid ⟨h0,h1,h2⟩⟩
  case round=>
   obtain⟨q,hq,rfl,hI⟩:=hrel;obtain⟨hP,hR,hE⟩:=hI.out;have c0:=Blk.cell (hP) 0 (v:= .int .i64 n) rfl;have c1:=Blk.cell (hP) 1 (v:= .int .u8 (t:Int)) rfl;have c2:=Blk.cell (hP) 2 (v:= .int .u8 (b:Int)) rfl;have c3:=Blk.cell (hP) 3 (v:= .bool g) rfl;have c4:=Blk.cell (hP) 4 (v:= .string x) rfl;clear h0 h1 h2;by_cases hqk:q<k
   ·have t1:decide (q<k)=true:=decide_eq_true hqk
    obtain⟨m,hmk⟩: ∃m,k-q=m+1:=⟨k-q-1,by omega⟩;rw[hmk]at hR;have r1:=Blk.cell hR q (v:= .int .u8 0) (by have:=rowB_at (bodyL b q) m;rw[body_len]at this;exact this);have f1:=Blk.frozen hR q;have h1:=hR.set_ q (.int .u8 (((b:Int)+(q:Int)%5)%256));have h2:=rowB_set (bodyL b q) m (UInt8.ofNat ((b+q%5)%256));rw[body_len,←body_succ]at h2
    have h3:u8v (UInt8.ofNat ((b+q%5)%256))= .int .u8 (((b:Int)+(q:Int)%5)%256):=by
     unfold u8v
     congr 1
     rw[UInt8.toNat_ofNat'];omega
    rw[h3]at h2;rw[h2,show m=k-(q+1) by omega]at h1;have hE2:=hE.setCell (p:=⟨w.heap.size+1,q,none⟩) (Nat.le_succ _) (.int .u8 (((b:Int)+(q:Int)%5)%256));have hP2:=Blk.far hP (p:=⟨w.heap.size+1,q,none⟩) (by show w.heap.size≠w.heap.size+1;omega) (.int .u8 (((b:Int)+(q:Int)%5)%256));have HX:=Lib.hid (And.intro hP2 (And.intro h1 hE2));clear h1 h2 h3 hE2 hP2 hP hE hI hmk
    go_wp2_with fail
    go_roundw
    case rel=>exact⟨q+1,by omega,by go_num,HX⟩
    case measure=>simp[intOf];omega
   ·obtain rfl:q=k:=by omega
    have t1:decide (q<q)=false:=by simp
    rw[Nat.sub_self]at hR;have hc:=conv_row (l:=bodyL b q) (n:=q) hR (body_len b q) q;have hbz:(str (bodyL b q)).size≤4060:=by rw[←bl_len,bl_str,body_len];omega
    cases g with
    |true=>
     have km:=fun V=>make_any ⟨#[97,98,99,100]⟩ ⟨#[101,102,103,104]⟩ (str (bodyL b q)) 17 V (by decide) (by decide) hbz (by decide);have kr:=fun V=>rmbytes_any (gramP b q) V (gramP_ok b q hb hk4);unfold Mp.vals gramP at kr;dsimp only at kr;obtain⟨G,hG⟩: ∃G,mkD ⟨#[97,98,99,100]⟩ ⟨#[101,102,103,104]⟩ 17 (str (bodyL b q))=G:=⟨_,rfl⟩;have HG:=Lib.hid (show bytesS (gramP b q).sec=bytesS (Mp.sec ⟨3,⟨9,false,false,(b:Int)⟩,G⟩)from by rw[←hG];rfl);rw[hG]at km kr;clear hG hbz hR hI
     go_wp2_with fail
     (with_reducible refine(km _).mono ?_);rintro e1 W1 ⟨rfl,hb1⟩
     have hP1:=Blk.below hP hb1 hP.lt;have d0:=Blk.cell (hP1) 0 (v:= .int .i64 n) rfl;have d1:=Blk.cell (hP1) 1 (v:= .int .u8 (t:Int)) rfl;have d2:=Blk.cell (hP1) 2 (v:= .int .u8 (b:Int)) rfl;have d3:=Blk.cell (hP1) 3 (v:= .bool true) rfl;have d4:=Blk.cell (hP1) 4 (v:= .string x) rfl;have hE1:=hE.trans (hb1.mono hE.size);clear hP1 hb1 km
     go_wp2_with fail
     (with_reducible refine(kr _).mono ?_);rintro e2 W2 ⟨rfl,hb2⟩
     have hE3:=hE1.trans (hb2.mono hE1.size)
     go_wp2_with fail
     go_ret;exact⟨by rw[HZ.out,HG.out];rfl,hE3⟩
    |false=>
     have e1:(176+((q:Int)+9)/256).toNat=176+(q+9)/256:=by omega
     have e2:(((q:Int)+9)%256).toNat=(q+9)%256:=by omega
     have hso:strOfNums [(t:Int),176+((q:Int)+9)/256,((q:Int)+9)%256,0,1,193,0,0]=str (tabL t q):=by
      rw[nums_str];simp only[List.map_cons,List.map_nil,e1,e2,Int.toNat_natCast];rfl
     have hcv:=conv_new wr [(t:Int),176+((q:Int)+9)/256,((q:Int)+9)%256,0,1,193,0,0] 8 wr.heap.size #[.int .u8 (t:Int),.int .u8 (176+((q:Int)+9)/256),.int .u8 (((q:Int)+9)%256),.int .u8 0,.int .u8 1,.int .u8 193,.int .u8 0,.int .u8 0] rfl rfl rfl;rw[hso]at hcv;have hc2:=conv_row (l:=bodyL b q) (n:=q) (Blk.alloc hR (.cells #[.int .u8 (t:Int),.int .u8 (176+((q:Int)+9)/256),.int .u8 (((q:Int)+9)%256),.int .u8 0,.int .u8 1,.int .u8 193,.int .u8 0,.int .u8 0] 5)) (body_len b q) q;have hts:(str (tabL t q)).size=8:=rfl;have ka:=fun U=>add_at (str (tabL t q)) (str (bodyL b q)) (by rw[hts];omega) U;rw[str_app]at ka;have ks:=fun V=>rseal_any (str (tabL t q++bodyL b q)) V (by rw[←bl_len,bl_str,List.length_append,body_len];show 8+q≤_;omega);rw[bl_str]at ks;have hE2:=hE.alloc hE.size (.cells #[.int .u8 (t:Int),.int .u8 (176+((q:Int)+9)/256),.int .u8 (((q:Int)+9)%256),.int .u8 0,.int .u8 1,.int .u8 193,.int .u8 0,.int .u8 0] 5);clear hI e1 e2 hso hts hc hbz hR
     go_wp2_with fail
     (with_reducible refine(ks _).mono ?_);rintro e1 W1 ⟨rfl,hb1⟩
     have hE3:=hE2.trans (hb1.mono hE2.size)
     go_wp2_with fail
     go_ret;exact⟨by rw[HZ.out];rfl,hE3⟩
 ·have t0:x.toList.isEmpty=false:=by rw[isEmpty_iff];simpa using hx
  have hE:=(Below.refl w.heap.size w).alloc (Nat.le_refl _) (.cells #[.int .i64 n,.int .u8 (t:Int),.int .u8 (b:Int),.bool g,.string x] 50);clear hB0
  go_enter Tryd.func15,Tryd.ntmps15
  go_wp2_with fail
  go_ret;exact⟨by rw[HY.out,if_neg hx];rfl,hE⟩
end Go.Proofs.YtibjkhepedfpiaaDoor.SlA
