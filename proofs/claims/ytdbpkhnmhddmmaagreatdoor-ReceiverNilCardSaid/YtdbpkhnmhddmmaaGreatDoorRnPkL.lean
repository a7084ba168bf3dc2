import Derived.Test.YtdbpkhnmhddmmaaGreatDoorRnPkM
import Derived.Test.YtdbpkhnmhddmmaaGreatDoorRnPkR
namespace Go.Proofs.YtdbpkhnmhddmmaaGreatDoor.TbV
open Go Go.RowKit Q Mem Rg Ap St BiW BiG Ints CrB TlS TbM TbN TbQ GfP PoP RsP GfA PoA RsB MdA MdB MdC MdP MdE
set_option maxRecDepth 100000
def rowB (S:Tb) (r:Nat):List UInt8:=(List.range 255).map fun c=>S.b (c*S.R+r)
theorem rowB_at (S:Tb) (r c:Nat) (h:c<255):fa (rowB S r) c=S.b (c*S.R+r):=fa_map 255 _ c h
structure RowOf (S:Tb) (r:Nat) (cw:List UInt8):Prop where
 len:cw.length=255
 word: ∀j,j<64→hr cw (ex j)=0
 same: ∀c,c<255→S.is (c*S.R+r)=true→S.b (c*S.R+r)=fa cw c
theorem lost_mem (S:Tb) (r c:Nat):c∈lostL S r↔c<255∧S.is (c*S.R+r)=false:=by
 unfold lostL lostN;simp
theorem lost_nodup (S:Tb) (r:Nat):(lostL S r).Nodup:=(List.nodup_range).sublist List.filter_sublist
theorem RowOf.near {S:Tb} {r:Nat} {cw:List UInt8} (h:RowOf S r cw) (hl:(lostL S r).length≤64):Near (lostL S r) (rowB S r) cw:=by
 refine⟨⟨lost_nodup S r,fun n hn=>((lost_mem S r n).1 hn).1,hl⟩,by simp[rowB],h.len,h.word,fun n hn hm=>?_⟩;rw[rowB_at S r n hn];refine h.same n hn ?_
 cases hb:S.is (n*S.R+r)with
 |true=>rfl
 |false=>exact absurd ((lost_mem S r n).2 ⟨hn,hb⟩) hm
theorem lost_first {S:Tb} {r x:Nat} {t:List Nat} (h:lostL S r=x::t) (c:Nat) (hc:c<255) (hx:c<x):S.is (c*S.R+r)=true:=by
 cases hb:S.is (c*S.R+r)with
 |true=>rfl
 |false=>
  have hm:=(lost_mem S r c).2 ⟨hc,hb⟩;have hp:(lostL S r).Pairwise (· < ·):=(List.pairwise_lt_range).sublist List.filter_sublist;rw[h]at hm hp;rcases List.mem_cons.1 hm with e|hm
  ·omega
  ·have:=(List.pairwise_cons.1 hp).1 c hm
   omega
theorem enc_word {cw:List UInt8} (hl:cw.length=255) (hw: ∀j,j<64→hr cw (ex j)=0):cw.take 191++enc (cw.take 191)=cw:=by
 have hn:Near ((List.range 64).map (· +191)) (cw.take 191++enc (cw.take 191)) cw:=by
  refine⟨⟨?_,fun n hn=>?_,by simp⟩,by rw[List.length_append,enc_len,List.length_take,hl];rfl,hl,hw,fun n hn hm=>?_⟩
  ·exact List.pairwise_map.2 ((List.nodup_range).imp (fun h e=>h (by omega)))
  ·simp at hn
   omega
  ·have h1:n<191:=by
    rcases Nat.lt_or_ge n 191 with h|h
    ·exact h
    ·exact absurd (by simp;exact⟨n-191,by omega,by omega⟩) hm
   unfold fa;rw[List.getD_eq_getElem?_getD,List.getD_eq_getElem?_getD,List.getElem?_append_left (by rw[List.length_take,hl];omega),List.getElem?_take_of_lt h1]
 exact hn.zero ((isW_iff _).2 (fun j hj=>word_ok _ j hj))
theorem RowOf.data {S:Tb} {r:Nat} {cw:List UInt8} (h:RowOf S r cw) (hk: ∀c,c<191→S.is (c*S.R+r)=true):(List.range 191).map (fun c=>S.b (c*S.R+r))=cw.take 191:=by
 refine List.ext_getElem (by rw[List.length_map,List.length_range,List.length_take,h.len];rfl) (fun n h1 h2=>?_);have hn:n<191:=by simpa using h1
 rw[List.getElem_map,List.getElem_range,List.getElem_take,h.same n (by omega) (hk n hn)];exact fa_in (List.getElem?_eq_getElem _)
theorem ints_own {W:World} {B n oc:Nat} {oa:Option Addr} {L:List Nat} (h:W.ownsRow B 3 1 (.slice oa n oc) n (ints L)):Ints W oa (zI L):=fun k x hx=>by
 have hw:(ints L)[k]? =some (.int .i64 x):=by
  unfold zI at hx;rw[List.getElem?_map]at hx;unfold ints;rw[List.getElem?_map]
  cases hq:L[k]? with
  |none=>rw[hq]at hx;cases hx
  |some m=>rw[hq]at hx;injection hx with hx;rw[←hx];rfl
 have hk:=(List.getElem?_eq_some_iff.1 hw).1;rw[h.1,Nat.mul_one]at hk;rcases h.2 with⟨_,h0⟩|⟨g,cap,cur,e,_,hg,_⟩
 ·omega
 ·simp only[Value.slice.injEq,true_and]at e
  obtain⟨rfl,rfl⟩:=e;refine⟨g,0,rfl,(Array.getElem?_eq_some_iff.1 hg).1,?_⟩;rw[Nat.zero_add,h.cellAt k (by omega),hw]
theorem whole_no (w:World) (gr r:Nat) (S:Tb) (a:Option Addr) (c n x:Nat) (t:List Nat) (hl:lostL S r=x::t) (hx:x<191) (hn:(lostL S r).length=n) (hI:Ints w a (zI (lostL S r))):
 Calls Tryz.prog 172 #[.pointer (some ⟨gr,r*510,none⟩),.slice a n c] w fun e w'=>e= .returned (.tuple #[.string ⟨#[]⟩,.bool false])∧w=w':=by
 obtain⟨b,o,rfl,hlt,hc⟩:=hI 0 x (zI_at (by rw[hl];rfl));rw[Nat.add_zero]at hc;have n0:0<n:=by rw[←hn,hl];simp
 have t0:decide ((0:Int)<(n:Int))=true:=decide_eq_true (by omega);have t0':decide (0<n)=true:=decide_eq_true n0;have t1:decide ((x:Int)<191)=true:=decide_eq_true (by omega);have n1:(0:Int)<(n:Int):=by omega
 clear hl hx hn hI n0
 go_enter Tryz.func172,Tryz.ntmps172
 go_wp2_with fail
 go_ret2
 exact⟨rfl,rfl⟩
set_option maxHeartbeats 3200000 in
theorem whole_yes (w:World) (B gt gr r:Nat) (v:Value) (S:Tb) (a:Option Addr) (c n x:Nat) (t cw:List _) (h:TbIn w B gt gr v S) (hr:r<S.R) (hG:RowOf S r cw) (hl:lostL S r=x::t) (hx:191≤x) (hn:(lostL S r).length=n) (hI:Ints w a (zI (lostL S r))):
 Calls Tryz.prog 172 #[.pointer (some ⟨gr,r*510,none⟩),.slice a n c] w fun e w'=>e= .returned (.tuple #[.string (str cw),.bool true])∧Below w.heap.size w w':=by
 obtain⟨b,o,rfl,hlt,hc⟩:=hI 0 x (zI_at (by rw[hl];rfl));rw[Nat.add_zero]at hc;have n0:0<n:=by rw[←hn,hl];simp
 have t0:decide ((0:Int)<(n:Int))=true:=decide_eq_true (by omega);have t0':decide (0<n)=true:=decide_eq_true n0;have t1:decide ((x:Int)<191)=false:=decide_eq_false (by omega);have n1:(0:Int)<(n:Int):=by omega
 have hrr:(r+1)*510≤S.R*510:=Nat.mul_le_mul_right _ hr;have kcv:=FrC.conv_part (cap:=255) (off:=r*510) (n:=191) (F:=fun c=>S.b (c*S.R+r)) h.rows (fun k hk=>⟨by omega,rowF_b S r k (by omega)⟩);rw[hG.data (fun c hc=>lost_first hl c (by omega) (by omega))]at kcv;have kw:=RsB.word_any (str (cw.take 191)) w (by rw[str_size,List.length_take,hG.len];rfl);rw[bl_str,enc_word hG.len hG.word]at kw;have hcs:(str cw).size=255:=by rw[str_size,hG.len]
 have hcb:bl (str cw)=cw:=bl_str cw;obtain⟨q,hq⟩: ∃q,str (cw.take 191)=q:=⟨_,rfl⟩;rw[hq]at kcv kw;have hsame:=hG.same
 have HG:=Lib.hid (show ∀k,k<255→ ∃y,(bl (str cw))[k]? =some y∧(S.is (k*S.R+r)=true→S.b (k*S.R+r)=y)from fun k hk=>by
  refine⟨fa cw k,?_,hsame k hk⟩;rw[hcb];obtain⟨y,hy⟩: ∃y,cw[k]? =some y:=⟨_,List.getElem?_eq_getElem (by rw[hG.len];exact hk)⟩;rw[hy,fa_in hy])
 obtain⟨cs,hcw⟩: ∃cs,str cw=cs:=⟨_,rfl⟩;rw[hcw]at kw hcs HG ⊢;have hcs':((cs.size:Int)==255)=true:=by rw[hcs];rfl
 have hcs2:((cs.size:Int)!=255)=false:=by rw[hcs];rfl
 have his: ∀j u,(isRow S r).toList[j]? =some u→w.cell? ⟨gr,r*510+255+j,none⟩=some u:=fun j u hj=>by
  rw[Array.getElem?_toList]at hj;have hjl:j<255:=by have:=(Array.getElem?_eq_some_iff.1 hj).1;rwa [isRow_size]at this
  rw[isRow_at S r j hjl]at hj;injection hj with hj
  rw[h.rows.cell (r*510+255+j) (by omega),rowF_i S r j hjl,hj]
 have hix:=fun c hc V=>idx_bool (isRow S r) c _ hc (isRow_at S r c hc) V;have hsz:=isRow_size S r
 have hbc: ∀j,j<255→w.cell? ⟨gr,r*510+j,none⟩=some (u8v (S.b (j*S.R+r))):=fun j hj=>by
  rw[h.rows.cell (r*510+j) (by omega),rowF_b S r j hj]
 have hgr:=h.rows.lt;obtain⟨C,hC⟩: ∃C,isRow S r=C:=⟨_,rfl⟩;rw[hC]at his hix hsz;have HIX:=Lib.hid hix;have HBC:=Lib.hid hbc;have HIS:=Lib.hid his;clear h hr hG hl hx hn hI n0 hrr hq hcw hsame hcb hbc hC hix his
 go_enter Tryz.func172,Tryz.ntmps172
 go_wp2_with fail
 (with_reducible refine(kw).mono ?_);rintro e1 W1 ⟨rfl,hb1⟩
 clear kw;have his1: ∀j u,C.toList[j]? =some u→W1.cell? ⟨gr,r*510+255+j,none⟩=some u:=fun j u hj=>(World.cell?_of_block (a:=⟨gr,r*510+255+j,none⟩) (hb1.block gr hgr)).trans (HIS.out j u hj)
 go_wp2_with (refine wpList_load_part rfl 227 _ rfl gr (r*510+255) rfl C _ his1 Tryz.underlying227 rfl (by rw[hsz];kernel_rfl) ?_)
 clear his1
 go_wp2_with fail
 go_loopw [39] (fun iv W=> ∃k:Nat,k≤255∧iv= .int .i64 k∧Below w.heap.size w W) (fun iv _=>255-(intOf iv).toNat)
 case atStart=>exact⟨0,by omega,rfl,hb1⟩
 case round=>
  clear hb1;obtain⟨k,hk,rfl,hb⟩:=hrel;have k0:(0:Int)≤(k:Int):=Int.natCast_nonneg _;by_cases hkn:k<255
  ·have t2:decide ((k:Int)<255)=true:=decide_eq_true (by omega)
   have k1:(k:Int)<255:=by omega
   have hi:=HIX.out k hkn;obtain⟨y,hy,hsy⟩:=HG.out k hkn;have iy:=ix_of hy
   cases hz:S.is (k*S.R+r)with
   |false=>
    rw[hz]at hi;clear hsy hy iy
    go_wp2_with fail
    refine Go.Proofs.YtdbpkhnmhddmmaaGreatDoor.Q.region_ext (by kernel_rfl) (by kernel_rfl) ?_
    repeat (go_big_quiet_step (fail))
    refine wpQuiet_nil ?_;rintro w9 ⟨pq,rfl⟩;have hb9:=hb.trans ((below_ext wr pq).mono hb.size);clear hb
    go_wp2_with fail
    go_roundw
    case rel=>exact⟨k+1,by omega,by go_num,hb9⟩
    case measure=>simp[intOf];omega
   |true=>
    rw[hz]at hi;have c0:=fun p=>(World.cell?_of_block (w:=w) (a:=⟨gr,r*510+k,none⟩) ((hb.trans ((below_ext wr p).mono hb.size)).block gr hgr)).trans (HBC.out k hkn);rw[hsy hz,u8v]at c0;clear hsy hy
    go_wp2_with fail
    refine Go.Proofs.YtdbpkhnmhddmmaaGreatDoor.Q.region_ext (by kernel_rfl) (by kernel_rfl) ?_
    repeat (go_big_quiet_step (fail))
    refine wpQuiet_nil ?_;rintro w9 ⟨pq,rfl⟩;have hb9:=hb.trans ((below_ext wr pq).mono hb.size);clear hb c0
    go_wp2_with fail
    go_roundw
    case rel=>exact⟨k+1,by omega,by go_num,hb9⟩
    case measure=>simp[intOf];omega
  ·obtain rfl:k=255:=by omega
   have t2:decide (((255:Nat):Int)<255)=false:=by decide
   go_wp2_with fail
   go_ret2
   exact⟨rfl,hb⟩
theorem word_row (w:World) (B gt gr r:Nat) (v:Value) (S:Tb) (a:Option Addr) (c n:Nat) (cw:List UInt8) (h:TbIn w B gt gr v S) (hr:r<S.R) (hG:RowOf S r cw) (hn:(lostL S r).length=n) (hI:Ints w a (zI (lostL S r))) (h0:0<n) (h64:n≤64):
 Calls Tryz.prog 144 #[.pointer (some ⟨gr,r*510,none⟩),.slice a n c] w fun e w'=>e= .returned (.tuple #[.string (str cw),.bool true])∧Below w.heap.size w w':=by
 obtain⟨x,t,hl⟩: ∃x t,lostL S r=x::t:=by
  cases hq:lostL S r with
  |nil=>rw[hq]at hn;simp at hn;omega
  |cons x t=>exact⟨x,t,rfl⟩
 rcases Nat.lt_or_ge x 191 with hx|hx
 ·have kw:=whole_no w gr r S a c n x t hl hx hn hI
  have hN:=hG.near (by omega);have hrr:(r+1)*510≤S.R*510:=Nat.mul_le_mul_right _ hr;have kcv:=FrC.conv_part (cap:=255) (off:=r*510) (n:=255) (F:=fun c=>S.b (c*S.R+r)) h.rows (fun k hk=>⟨by omega,rowF_b S r k (by omega)⟩);rw[show(List.range 255).map (fun c=>S.b (c*S.R+r))=rowB S r from rfl]at kcv;have km:=MdE.word_any w (str (rowB S r)) a c n (lostL S r) cw (by rw[bl_str];exact hN) hn hI;obtain⟨q,hq⟩: ∃q,str (rowB S r)=q:=⟨_,rfl⟩;rw[hq]at kcv km;obtain⟨cs,hcw⟩: ∃cs,str cw=cs:=⟨_,rfl⟩;rw[hcw]at km ⊢;clear h hr hG hl hx hn hI hN hrr hq hcw
  go_enter Tryz.func144,Tryz.ntmps144
  go_wp2_with fail
  (with_reducible refine(kw).mono ?_);rintro e1 W1 ⟨rfl,rfl⟩
  clear kw
  go_wp2_with fail
  (with_reducible refine(km).mono ?_);rintro e2 W2 ⟨⟨v2,rfl⟩,hb2⟩
  clear km
  go_wp2_with fail
  go_ret2
  exact⟨rfl,hb2⟩
 ·have kw:=whole_yes w B gt gr r v S a c n x t cw h hr hG hl hx hn hI
  obtain⟨cs,hcw⟩: ∃cs,str cw=cs:=⟨_,rfl⟩;rw[hcw]at kw ⊢;clear h hr hG hl hx hn hI hcw
  go_enter Tryz.func144,Tryz.ntmps144
  go_wp2_with fail
  (with_reducible refine(kw).mono ?_);rintro e1 W1 ⟨rfl,hb1⟩
  clear kw
  go_wp2_with fail
  go_ret2
  exact⟨rfl,hb1⟩
end Go.Proofs.YtdbpkhnmhddmmaaGreatDoor.TbV
namespace Go.Proofs.YtdbpkhnmhddmmaaGreatDoor.TbW
open Go Go.RowKit Q Mem Rg Ap St BiW BiG Ints CrB TlS TbM TbN TbQ GfP RsP PoA MdA MdP TbV
set_option maxRecDepth 100000
def filN (S:Tb) (r:Nat) (cw:List UInt8) (k:Nat):Tb:={S with b:=fun p=>if p%S.R=r∧p/S.R<k then fa cw (p/S.R)else S.b p,is:=fun p=>if p%S.R=r∧p/S.R<k then true else S.is p}
theorem filN_zero (S:Tb) (r:Nat) (cw:List UInt8):filN S r cw 0=S:=by
 unfold filN;simp
theorem place_iff {R r k p:Nat} (hr:r<R):p=k*R+r↔p%R=r∧p/R=k:=by
 constructor
 ·rintro rfl
  rw[Nat.mul_comm k R];exact⟨by rw[Nat.mul_add_mod,Nat.mod_eq_of_lt hr],by rw[Nat.mul_add_div (by omega),Nat.div_eq_of_lt hr];omega⟩
 ·rintro⟨rfl,rfl⟩
  rw[Nat.mul_comm];exact(Nat.div_add_mod p R).symm
theorem filN_step (S:Tb) (r:Nat) (cw:List UInt8) (k:Nat) (hr:r<S.R):(filN S r cw k).set (k*S.R+r) (fa cw k)=filN S r cw (k+1):=by
 unfold filN Tb.set;simp only[Tb.mk.injEq,true_and,and_true];refine⟨funext fun p=>?_,funext fun p=>?_⟩
 ·by_cases h:p=k*S.R+r
  ·have h2:=(place_iff hr).1 h
   rw[if_pos h,if_pos ⟨h2.1,by omega⟩,h2.2]
  ·rw[if_neg h]
   have h2: ¬(p%S.R=r∧p/S.R=k):=fun e=>h ((place_iff hr).2 e);by_cases h3:p%S.R=r∧p/S.R<k
   ·rw[if_pos h3,if_pos ⟨h3.1,by omega⟩]
   ·rw[if_neg h3,if_neg (fun e=>h3 ⟨e.1,by have:=e.2;have:p/S.R≠k:=fun e2=>h2 ⟨e.1,e2⟩;omega⟩)]
 ·by_cases h:p=k*S.R+r
  ·have h2:=(place_iff hr).1 h
   rw[if_pos h,if_pos ⟨h2.1,by omega⟩]
  ·rw[if_neg h]
   have h2: ¬(p%S.R=r∧p/S.R=k):=fun e=>h ((place_iff hr).2 e);by_cases h3:p%S.R=r∧p/S.R<k
   ·rw[if_pos h3,if_pos ⟨h3.1,by omega⟩]
   ·rw[if_neg h3,if_neg (fun e=>h3 ⟨e.1,by have:=e.2;have:p/S.R≠k:=fun e2=>h2 ⟨e.1,e2⟩;omega⟩)]
theorem mends_no (w:World) (p:Value) (a:Option Addr) (c n:Nat) (h:64<n):Calls Tryz.prog 120 #[p,.slice a n c] w fun e w'=>e= .returned (.bool false)∧w=w':=by
 have t0:decide ((64:Int)<(n:Int))=true:=decide_eq_true (by omega);have t0':decide (64<n)=true:=decide_eq_true h;clear h
 go_enter Tryz.func120,Tryz.ntmps120
 go_wp2_with fail
 go_ret;exact⟨rfl,rfl⟩
set_option maxHeartbeats 1600000 in
theorem mends_any (w:World) (B gt gr r:Nat) (v:Value) (S:Tb) (a:Option Addr) (c n:Nat) (cw:List UInt8) (h:TbIn w B gt gr v S) (hr:r<S.R) (hG:RowOf S r cw) (hn:(lostL S r).length=n) (hI:Ints w a (zI (lostL S r))) (h0:0<n) (h64:n≤64):
 Calls Tryz.prog 120 #[.pointer (some ⟨gr,r*510,none⟩),.slice a n c] w fun e w'=>e= .returned (.bool true)∧TbIn w' B gt gr v (filN S r cw 255)∧Kept (· =gr) w w':=by
 have kw:=word_row w B gt gr r v S a c n cw h hr hG hn hI h0 h64;have HT:=Lib.hid h;have HR:=Lib.hid hr;have t0:decide ((64:Int)<(n:Int))=false:=decide_eq_false (by omega);have t0':decide (64<n)=false:=decide_eq_false (by omega);have hcs:(str cw).size=255:=by rw[str_size,hG.len]
 have hmin:min (((str cw).size:Nat):Int) 255=255:=by rw[hcs];rfl
 have HX:=Lib.hid (show ∀k,k<255→(bl (str cw))[k]? =some (fa cw k)from fun k hk=>by
  rw[bl_str];obtain⟨y,hy⟩: ∃y,cw[k]? =some y:=⟨_,List.getElem?_eq_getElem (by rw[hG.len];exact hk)⟩;rw[hy,fa_in hy])
 obtain⟨cs,hcw⟩: ∃cs,str cw=cs:=⟨_,rfl⟩;rw[hcw]at kw hmin HX;clear h hr hG hn hI h0 h64 hcs hcw
 go_enter Tryz.func120,Tryz.ntmps120
 go_wp2_with fail
 (with_reducible refine(kw).mono ?_);rintro e1 W1 ⟨rfl,hb1⟩
 clear kw
 go_wp2_with fail
 go_loopw [22] (fun iv W=> ∃k:Nat,k≤255∧iv= .int .i64 k∧Hid (TbIn W B gt gr v (filN S r cw k))∧Kept (· =gr) w W) (fun iv _=>255-(intOf iv).toNat)
 case atStart=>exact⟨0,by omega,rfl,Lib.hid (by rw[filN_zero];exact HT.out.below hb1),kept_below _ hb1⟩
 case round=>
  clear hb1 hmin;obtain⟨k,hk,rfl,hT,hK⟩:=hrel;have k0:(0:Int)≤(k:Int):=Int.natCast_nonneg _;by_cases hkn:k<255
  ·have t2:decide ((k:Int)<255)=true:=decide_eq_true (by omega)
   have k1:(k:Int)<255:=by omega
   have ix:=ix_of (HX.out k hkn);have ks:=set_any wr B gt gr r k v (filN S r cw k) (fa cw k) hT.out hkn HR.out;rw[show(filN S r cw k).R=S.R from rfl,filN_step S r cw k HR.out]at ks;obtain⟨x,hx⟩: ∃x,fa cw k=x:=⟨_,rfl⟩;rw[hx]at ix ks;clear hx
   go_wp2_with fail
   (with_reducible refine(ks).mono ?_);rintro e3 W3 ⟨rfl,hT3,hK3⟩
   have H3:=Lib.hid hT3;have hK4:=hK.trans hK3 (fun _ _ e=>e);clear ks hT hT3 hK hK3
   go_wp2_with fail
   go_roundw
   case rel=>exact⟨k+1,by omega,by go_num,H3,hK4⟩
   case measure=>simp[intOf];omega
  ·obtain rfl:k=255:=by omega
   have t2:decide (((255:Nat):Int)<255)=false:=by decide
   go_wp2_with fail
   go_ret;exact⟨rfl,hT.out,hK⟩
def okR (S:Tb) (r:Nat):Bool:=decide (0<(lostL S r).length∧(lostL S r).length≤64)
def badR (S:Tb) (r:Nat):Bool:=decide (64<(lostL S r).length)
def cntM (S:Tb) (i:Nat):Nat:=((List.range i).filter (okR S)).length
def cntF (S:Tb) (i:Nat):Nat:=((List.range i).filter (badR S)).length
def mdS (S:Tb) (C:Nat→List UInt8) (i:Nat):Tb:={S with b:=fun p=>if p%S.R<i∧p/S.R<255∧okR S (p%S.R)=true then fa (C (p%S.R)) (p/S.R)else S.b p,is:=fun p=>if p%S.R<i∧p/S.R<255∧okR S (p%S.R)=true then true else S.is p}
theorem mdS_zero (S:Tb) (C:Nat→List UInt8):mdS S C 0=S:=by
 unfold mdS;simp
theorem cntM_step (S:Tb) (i:Nat):cntM S (i+1)=cntM S i+if okR S i then 1 else 0:=by
 unfold cntM;rw[List.range_succ,List.filter_append,List.length_append]
 cases h:okR S i<;>simp[h]
theorem cntF_step (S:Tb) (i:Nat):cntF S (i+1)=cntF S i+if badR S i then 1 else 0:=by
 unfold cntF;rw[List.range_succ,List.filter_append,List.length_append]
 cases h:badR S i<;>simp[h]
theorem cntM_le (S:Tb) (i:Nat):cntM S i≤i:=by
 have:=List.length_filter_le (okR S) (List.range i);unfold cntM;simpa using this
theorem cntF_le (S:Tb) (i:Nat):cntF S i≤i:=by
 have:=List.length_filter_le (badR S) (List.range i);unfold cntF;simpa using this
theorem place_div {R r c:Nat} (hr:r<R):(c*R+r)%R=r∧(c*R+r)/R=c:=(place_iff hr).1 rfl
theorem mdS_is (S:Tb) (C:Nat→List UInt8) (i r c:Nat) (hr:r<S.R) (hc:c<255):(mdS S C i).is (c*S.R+r)=(if r<i∧okR S r=true then true else S.is (c*S.R+r)):=by
 obtain⟨h1,h2⟩:=place_div (c:=c) hr;show(if _ then _ else _)=_;rw[h1,h2];by_cases h:r<i∧okR S r=true
 ·rw[if_pos h,if_pos ⟨h.1,hc,h.2⟩]
 ·rw[if_neg h,if_neg (fun e=>h ⟨e.1,e.2.2⟩)]
theorem mdS_b (S:Tb) (C:Nat→List UInt8) (i r c:Nat) (hr:r<S.R) (hc:c<255):(mdS S C i).b (c*S.R+r)=(if r<i∧okR S r=true then fa (C r) c else S.b (c*S.R+r)):=by
 obtain⟨h1,h2⟩:=place_div (c:=c) hr;show(if _ then _ else _)=_;rw[h1,h2];by_cases h:r<i∧okR S r=true
 ·rw[if_pos h,if_pos ⟨h.1,hc,h.2⟩]
 ·rw[if_neg h,if_neg (fun e=>h ⟨e.1,e.2.2⟩)]
theorem lost_same {S T:Tb} {r:Nat} (h: ∀c,c<255→T.is (c*T.R+r)=S.is (c*S.R+r)):lostL T r=lostL S r:=by
 unfold lostL lostN;exact List.filter_congr (fun c hc=>by rw[h c (by simpa using hc)])
theorem mdS_lost (S:Tb) (C:Nat→List UInt8) (i r:Nat) (hr:r<S.R) (hi:i≤r):lostL (mdS S C i) r=lostL S r:=
 lost_same (fun c hc=>by rw[show(mdS S C i).R=S.R from rfl,mdS_is S C i r c hr hc,if_neg (fun e=>by omega)])
theorem mdS_good (S:Tb) (C:Nat→List UInt8) (i r:Nat) (hr:r<S.R) (hG:RowOf S r (C r)):RowOf (mdS S C i) r (C r):=by
 refine⟨hG.len,hG.word,fun c hc hi=>?_⟩;rw[show(mdS S C i).R=S.R from rfl]at hi ⊢;rw[mdS_b S C i r c hr hc];rw[mdS_is S C i r c hr hc]at hi;by_cases h:r<i∧okR S r=true
 ·rw[if_pos h]
 ·rw[if_neg h]at hi ⊢
  exact hG.same c hc hi
theorem mdS_fill (S:Tb) (C:Nat→List UInt8) (i:Nat) (hok:okR S i=true):filN (mdS S C i) i (C i) 255=mdS S C (i+1):=by
 unfold filN;show Tb.mk _ _ _ _=Tb.mk _ _ _ _;simp only[Tb.mk.injEq];refine⟨rfl,funext fun p=>?_,funext fun p=>?_,rfl⟩
 ·show(if p%S.R=i∧p/S.R<255 then _ else(if p%S.R<i∧p/S.R<255∧okR S (p%S.R)=true then _ else _))=(if p%S.R<i+1∧p/S.R<255∧okR S (p%S.R)=true then _ else _)
  by_cases h:p%S.R=i∧p/S.R<255
  ·rw[if_pos h,if_pos ⟨by omega,h.2,by rw[h.1];exact hok⟩,h.1]
   rfl
  ·rw[if_neg h]
   by_cases h2:p%S.R<i∧p/S.R<255∧okR S (p%S.R)=true
   ·rw[if_pos h2,if_pos ⟨by omega,h2.2⟩]
   ·rw[if_neg h2,if_neg (fun e=>h2 ⟨by have:=e.1;have:p%S.R≠i:=fun e2=>h ⟨e2,e.2.1⟩;omega,e.2⟩)]
 ·show(if p%S.R=i∧p/S.R<255 then _ else(if p%S.R<i∧p/S.R<255∧okR S (p%S.R)=true then _ else _))=(if p%S.R<i+1∧p/S.R<255∧okR S (p%S.R)=true then _ else _)
  by_cases h:p%S.R=i∧p/S.R<255
  ·rw[if_pos h,if_pos ⟨by omega,h.2,by rw[h.1];exact hok⟩]
  ·rw[if_neg h]
   by_cases h2:p%S.R<i∧p/S.R<255∧okR S (p%S.R)=true
   ·rw[if_pos h2,if_pos ⟨by omega,h2.2⟩]
   ·rw[if_neg h2,if_neg (fun e=>h2 ⟨by have:=e.1;have:p%S.R≠i:=fun e2=>h ⟨e2,e.2.1⟩;omega,e.2⟩)]
theorem mdS_skip (S:Tb) (C:Nat→List UInt8) (i:Nat) (hok:okR S i=false):mdS S C i=mdS S C (i+1):=by
 have key: ∀p,(p%S.R<i∧p/S.R<255∧okR S (p%S.R)=true)↔(p%S.R<i+1∧p/S.R<255∧okR S (p%S.R)=true):=fun p=>by
  constructor
  ·rintro⟨h1,h2⟩
   exact⟨by omega,h2⟩
  ·rintro⟨h1,h2,h3⟩
   refine⟨?_,h2,h3⟩;have:p%S.R≠i:=fun e=>by rw[e,hok]at h3;cases h3
   omega
 unfold mdS;simp only[Tb.mk.injEq,true_and,and_true];exact⟨funext fun p=>by simp only[key p],funext fun p=>by simp only[key p]⟩
set_option maxHeartbeats 1600000 in
theorem mend_any (w:World) (B gt gr:Nat) (v:Value) (S:Tb) (C:Nat→List UInt8) (h:TbIn w B gt gr v S) (hR:S.R≤1024) (hC: ∀r,r<S.R→RowOf S r (C r)):
 Calls Tryz.prog 75 #[.pointer (some ⟨gt,0,none⟩)] w fun e w'=>e= .returned (.tuple #[.int .i64 (cntM S S.R:Nat),.int .i64 (cntF S S.R:Nat)])∧TbIn w' B gt gr v (mdS S C S.R)∧Kept (· =gr) w w':=by
 have c0:=Blk.cell h.box 0 (v:= .slice (some ⟨gr,0,none⟩) S.R S.R) rfl;obtain⟨R,hRR⟩: ∃R,S.R=R:=⟨_,rfl⟩;have HT:=Lib.hid h;have HC:=Lib.hid hC;have HR:=Lib.hid hRR;rw[hRR]at c0 hR;clear h hC;rw[hRR];clear hRR;have r0:(0:Int)≤(R:Int):=Int.natCast_nonneg _;have r1:(R:Int)≤1024:=by omega
 go_enter Tryz.func75,Tryz.ntmps75
 go_wp2_with fail
 go_loopw [2,3,13] (fun mv fv iv W=> ∃i:Nat,i≤R∧iv= .int .i64 i∧mv= .int .i64 (cntM S i:Nat)∧fv= .int .i64 (cntF S i:Nat)∧Hid (TbIn W B gt gr v (mdS S C i))∧Kept (· =gr) w W) (fun _ _ iv _=>R-(intOf iv).toNat)
 case atStart=>exact⟨0,by omega,rfl,rfl,rfl,Lib.hid (by rw[mdS_zero];exact HT.out),Kept.refl _ _⟩
 case round=>
  clear c0;obtain⟨i,hi,rfl,rfl,rfl,hT,hK⟩:=hrel;have i0:(0:Int)≤(i:Int):=Int.natCast_nonneg _;have HK:=Lib.hid hK;clear hK;by_cases hin:i<R
  ·have t0:decide ((i:Int)<(R:Int))=true:=decide_eq_true (by omega)
   have t0':decide (i<R)=true:=decide_eq_true hin;have i1:(i:Int)<(R:Int):=by omega
   have c1:=Blk.cell hT.out.box 0 (v:= .slice (some ⟨gr,0,none⟩) S.R S.R) rfl;rw[HR.out]at c1;have kl:=lost_any wr B gt gr i v (mdS S C i) hT.out (by rw[show(mdS S C i).R=S.R from rfl,HR.out];exact hin);have hls:=mdS_lost S C i i (by rw[HR.out];exact hin) (Nat.le_refl _);rw[hls]at kl;have HM:=Lib.hid (cntM_step S i);have HF:=Lib.hid (cntF_step S i);have hm1:(cntM S i:Int)≤1024:=by have:=cntM_le S i;omega
   have hf1:(cntF S i:Int)≤1024:=by have:=cntF_le S i;omega
   have hm0:(0:Int)≤(cntM S i:Int):=Int.natCast_nonneg _;have hf0:(0:Int)≤(cntF S i:Int):=Int.natCast_nonneg _;have hll:(lostL S i).length≤255:=lostN_len S i 255;have HOK:=Lib.hid (show okR S i=decide (0<(lostL S i).length∧(lostL S i).length≤64)from rfl);have HBD:=Lib.hid (show badR S i=decide (64<(lostL S i).length)from rfl);obtain⟨m,hm⟩: ∃m,cntM S i=m:=⟨_,rfl⟩;obtain⟨f,hf⟩: ∃f,cntF S i=f:=⟨_,rfl⟩;obtain⟨n,hn⟩: ∃n,(lostL S i).length=n:=⟨_,rfl⟩;rw[hm]at hm1 hm0 HM ⊢;rw[hf]at hf1 hf0 HF ⊢;rw[hn]at kl hll HOK HBD;have HLN:=Lib.hid hls;have HN:=Lib.hid hn;clear hm hf hn hls
   go_wp2_with fail
   (with_reducible refine(kl).mono ?_);rintro e1 W1 ⟨hb1,v1,rfl,hown⟩
   obtain⟨oa,oc,rfl⟩:=own_form hown;have hI:=ints_own hown;have hT1:=Lib.hid (hT.out.below hb1);have HK1:=Lib.hid (HK.out.then (hb1.mono HK.out.size));clear kl hT HK hb1 c1 hown;by_cases h0:n=0
   ·have t1:((n:Int)==0)=true:=by rw[h0];rfl
    have hok:okR S i=false:=by rw[HOK.out];exact decide_eq_false (by omega)
    have hbd:badR S i=false:=by rw[HBD.out];exact decide_eq_false (by omega)
    rw[hok]at HM;rw[hbd]at HF;have HS:=Lib.hid (mdS_skip S C i hok);clear hI h0 hok hbd
    go_wp2_with fail
    go_roundw
    case rel=>exact⟨i+1,by omega,by go_num,by rw[HM.out];rfl,by rw[HF.out];rfl,by rw[←HS.out];exact hT1,HK1.out⟩
    case measure=>simp[intOf];omega
   ·have t1:((n:Int)==0)=false:=beq_eq_false_iff_ne.2 (by omega)
    have c2:=Blk.cell hT1.out.box 0 (v:= .slice (some ⟨gr,0,none⟩) S.R S.R) rfl;rw[HR.out]at c2;by_cases h64:n≤64
    ·have km:=mends_any W1 B gt gr i v (mdS S C i) oa oc n (C i) hT1.out (by rw[show(mdS S C i).R=S.R from rfl,HR.out];exact hin) (mdS_good S C i i (by rw[HR.out];exact hin) (HC.out i (by rw[HR.out];exact hin))) (by rw[HLN.out];exact HN.out) (by rw[HLN.out];exact hI) (by omega) h64
     have hok:okR S i=true:=by rw[HOK.out];exact decide_eq_true (by omega)
     have hbd:badR S i=false:=by rw[HBD.out];exact decide_eq_false (by omega)
     rw[hok]at HM;rw[hbd]at HF;rw[mdS_fill S C i hok]at km;clear hI h0 hok hbd h64
     go_wp2_with fail
     (with_reducible refine(km).mono ?_);rintro e2 W2 ⟨rfl,hT2,hK2⟩
     have H2:=Lib.hid hT2;have HK2:=Lib.hid (HK1.out.trans hK2 (fun _ _ e=>e));clear km hT2 hK2 hT1 HK1 c2
     go_wp2_with fail
     go_roundw
     case rel=>exact⟨i+1,by omega,by go_num,by rw[HM.out];go_num,by rw[HF.out];rfl,H2,HK2.out⟩
     case measure=>simp[intOf];omega
    ·have km:=mends_no W1 (.pointer (some ⟨gr,i*510,none⟩)) oa oc n (by omega)
     have hok:okR S i=false:=by rw[HOK.out];exact decide_eq_false (by omega)
     have hbd:badR S i=true:=by rw[HBD.out];exact decide_eq_true (by omega)
     rw[hok]at HM;rw[hbd]at HF;have HS:=Lib.hid (mdS_skip S C i hok);clear hI h0 hok hbd h64
     go_wp2_with fail
     (with_reducible refine(km).mono ?_);rintro e2 W2 ⟨rfl,rfl⟩
     clear km c2
     go_wp2_with fail
     go_roundw
     case rel=>exact⟨i+1,by omega,by go_num,by rw[HM.out];rfl,by rw[HF.out];go_num,by rw[←HS.out];exact hT1,HK1.out⟩
     case measure=>simp[intOf];omega
  ·obtain rfl:i=R:=by omega
   have t0:decide ((i:Int)<(i:Int))=false:=decide_eq_false (by omega);have t0':decide (i<i)=false:=decide_eq_false (by omega)
   go_wp2_with fail
   go_ret2
   exact⟨rfl,hT.out,HK.out⟩
end Go.Proofs.YtdbpkhnmhddmmaaGreatDoor.TbW
namespace Go.Proofs.YtdbpkhnmhddmmaaGreatDoor.LaG
open Go Go.RowKit Q Mem Rg Ap St Tab Ints FrA
set_option maxRecDepth 100000
end Go.Proofs.YtdbpkhnmhddmmaaGreatDoor.LaG
namespace Go.Proofs.YtdbpkhnmhddmmaaGreatDoor.LaH
open Go Go.RowKit Q Mem Rg Ap St DgC TbM TbO TbP FrA FrB LaA
def Chain:Nat→List (Nat×ByteArray)→Nat→Prop
 |a,[],b=>a=b
 |a,(p,d)::t,b=>p=a∧dgE d=0∧Chain (a+d.size) t b
theorem chain_snoc: ∀{L:List (Nat×ByteArray)} {a b:Nat} {d:ByteArray},Chain a L b→dgE d=0→Chain a (L++[(b,d)]) (b+d.size)
 |[],a,b,d,h,hd=>⟨Eq.symm h,hd,by rw[show a=b from h];rfl⟩
 |(p,x)::t,a,b,d,⟨h1,h2,h3⟩,hd=>⟨h1,h2,chain_snoc h3 hd⟩
theorem chain_le: ∀{L:List (Nat×ByteArray)} {a b:Nat},Chain a L b→a≤b
 |[],a,b,h=>Nat.le_of_eq h
 |(p,x)::t,a,b,⟨_,_,h3⟩=>by have:=chain_le h3;omega
theorem chain_in: ∀{L:List (Nat×ByteArray)} {a b:Nat},Chain a L b→ ∀x∈L,a≤x.1∧x.1+x.2.size≤b∧dgE x.2=0
 |[],a,b,h,x,hx=>by cases hx
 |(p,d)::t,a,b,⟨h1,h2,h3⟩,x,hx=>by
  have h4:=chain_le h3;rcases List.mem_cons.1 hx with rfl|hx
  ·exact⟨Nat.le_of_eq h1.symm,by subst h1;exact h4,h2⟩
  ·have:=chain_in h3 x hx
   exact⟨by omega,this.2⟩
structure OkL (S:Fr):Prop where
 ok:OkF S
 ch:Chain 0 S.L S.used
theorem empty_okL {R C K:Nat} (hR:R≤1024) (hR0:0<R) (hC:C≤191):OkL (emptyF R C K):=⟨⟨hR,hR0,hC,Nat.zero_le _,Nat.le_refl _⟩,rfl⟩
theorem add_okL {S:Fr} (h:OkL S) (d:ByteArray):OkL (addS S d):=by
 refine⟨add_ok h.ok d,?_⟩;unfold addS
 split
 ·exact h.ch
 ·rename_i h1
  have h1:addE S d=0:=by simpa using h1
  have hd:dgE d=0:=by
   unfold addE at h1
   split at h1
   ·rename_i h2;exact absurd h1 h2
   ·rename_i h2;simpa using h2
  exact chain_snoc h.ch hd
theorem add_R (S:Fr) (d:ByteArray):(addS S d).R=S.R∧(addS S d).C=S.C∧(addS S d).K=S.K:=by unfold addS;split<;>exact⟨rfl,rfl,rfl⟩
theorem add_len (S:Fr) (d:ByteArray):(addS S d).L.length≤S.L.length+1:=by unfold addS;split<;>simp
structure FT (w:World) (B gf gr:Nat) (v:Value) (F:Fr) (gt g2:Nat) (u:Value) (T:Tb):Prop where
 f:FrIn w B gf gr v F
 t:TbIn w B gt g2 u T
 ap: ∀i,footF gf gr v i→ ¬foot gt g2 u i
section
variable {w w':World} {B gf gr gt g2:Nat} {v v' u u':Value} {F F':Fr} {T T':Tb}
theorem FT.below (h:FT w B gf gr v F gt g2 u T) (k:Below w.heap.size w w'):FT w' B gf gr v F gt g2 u T:=⟨h.f.below k,h.t.below k,h.ap⟩
theorem FT.ge (h:FT w B gf gr v F gt g2 u T): ∀i,(footF gf gr v i∨foot gt g2 u i)→B≤i∧i<w.heap.size:=fun i hi=>hi.elim (h.f.ge i) (h.t.ge i)
theorem FT.base {B':Nat} (h:FT w B gf gr v F gt g2 u T) (hB:B'≤B):FT w B' gf gr v F gt g2 u T:=
 ⟨⟨h.f.box,h.f.rows,ApG.own_base h.f.l hB,h.f.ne,h.f.nt,h.f.nr,Nat.le_trans hB h.f.bt,Nat.le_trans hB h.f.br⟩,
  ⟨h.t.box,h.t.rows,ApG.own_base h.t.st hB,h.t.ne,h.t.nt,h.t.nr,Nat.le_trans hB h.t.bt,Nat.le_trans hB h.t.br⟩,h.ap⟩
theorem FT.frame (h:FT w B gf gr v F gt g2 u T) (hf:FrIn w' B gf gr v' F') (hfar:far w v v') (k:Kept (footF gf gr v) w w'):FT w' B gf gr v' F' gt g2 u T:=by
 refine⟨hf,h.t.kept k (fun i hi hi2=>h.ap i hi2 hi),fun i hi ht=>?_⟩;rcases hi with e|e|e
 ·exact h.ap i (Or.inl e) ht
 ·exact h.ap i (Or.inr (Or.inl e)) ht
 ·rcases hfar with h1|⟨j,h1,h2⟩
  ·exact h.ap i (Or.inr (Or.inr (h1▸e))) ht
  ·rw[h1]at e
   injection e with e
   have:=(h.t.ge i ht).2;omega
theorem FT.table (h:FT w B gf gr v F gt g2 u T) (ht:TbIn w' B gt g2 u' T') (hfar:far w u u') (k:Kept (foot gt g2 u) w w'):FT w' B gf gr v F gt g2 u' T':=by
 refine⟨h.f.kept k (fun i hi=>h.ap i hi),ht,fun i hi ht2=>?_⟩;rcases ht2 with e|e|e
 ·exact h.ap i hi (Or.inl e)
 ·exact h.ap i hi (Or.inr (Or.inl e))
 ·rcases hfar with h1|⟨j,h1,h2⟩
  ·exact h.ap i hi (Or.inr (Or.inr (h1▸e)))
  ·rw[h1]at e
   injection e with e
   have:=(h.f.ge i hi).2;omega
end
end Go.Proofs.YtdbpkhnmhddmmaaGreatDoor.LaH
namespace Go.Proofs.YtdbpkhnmhddmmaaGreatDoor.LaI
open Go Go.RowKit Q Mem Rg Ap St CrB Tab Ints DgC TbM TbO TbP FrA FrB LaA LaG LaH
set_option maxRecDepth 100000
end Go.Proofs.YtdbpkhnmhddmmaaGreatDoor.LaI
namespace Go.Proofs.YtdbpkhnmhddmmaaGreatDoor.LaP
open Go St BiH DgB DgC TlS TbM TbO TbP TbQ TbT TbU FrA FrB LaE LaH
theorem fs_prefix {s X:ByteArray} (h:dgE X=0) (hle:X.size≤s.size) (hx:s.extract 0 X.size=X):fsN s=X.size:=by
 have h20:=dg_size h
 have hp:pkE X=0:=by
  unfold dgE at h
  split at h
  ·rename_i h1;exact absurd h h1
  ·rename_i h1;simpa using h1
 have hl:(pkH X).length=X.size:=by
  unfold dgE at h;rw[if_neg (by simpa using hp)]at h
  split at h
  ·cases h
  ·split at h
   ·cases h
   ·omega
 have ha: ∀i,i<X.size→at0 s i=at0 X i:=fun i hi=>by
  rw[←hx];unfold at0;rw[ByteArray.data_extract,Array.getElem?_extract,if_pos (by have:s.size=s.data.size:=rfl;omega),Nat.zero_add]
 have hk:pkE s=0∧(pkH s).length=(pkH X).length:=by
  have hp2:=hp;have hX0:X.size≠0:=by omega
  have hs0:s.size≠0:=by omega
  unfold pkE at hp;rw[if_neg hX0]at hp;by_cases h4:at0 X 0/16=4
  ·rw[if_pos h4]at hp
   have e4:at0 s 0/16=4:=by rw[ha 0 (by omega)];exact h4
   have hd:hd4 s=hd4 X:=by unfold hd4;rw[ha 0 (by omega),ha 2 (by omega),ha 3 (by omega),ha 9 (by omega)]
   have hs:pkE s=0:=by
    unfold pkE;rw[if_neg hs0,if_pos e4,if_neg (by omega),hd]
    split at hp
    ·cases hp
    ·exact hp
   refine⟨hs,?_⟩;unfold pkH;rw[if_pos hs,if_pos hp2,if_pos e4,if_pos h4,hd]
  ·rw[if_neg h4]at hp
   by_cases h6:at0 X 0/16=6
   ·rw[if_pos h6]at hp
    have e6:at0 s 0/16=6:=by rw[ha 0 (by omega)];exact h6
    split at hp
    ·cases hp
    rename_i h40;have hd:hd6 s=hd6 X:=by unfold hd6;rw[ha 4 (by omega),ha 5 (by omega),ha 6 (by omega)]
    have hs:pkE s=0:=by
     unfold pkE;rw[if_neg hs0,if_neg (by omega),if_pos e6,if_neg (by omega),hd];exact hp
    refine⟨hs,?_⟩;unfold pkH;rw[if_pos hs,if_pos hp2,if_neg (by omega),if_neg h4,hd]
   ·rw[if_neg h6]at hp;cases hp
 unfold fsN;rw[hk.2,hl,Int.toNat_natCast,hx,if_pos ⟨hk.1,by omega,h⟩]
theorem fs_none {s:ByteArray} (h:s.size=0∨at0 s 0=0):fsN s=0:=by
 have hp:pkE s≠0:=by
  unfold pkE;rcases h with h|h
  ·rw[if_pos h];decide
  ·split
   ·decide
   ·rw[h,if_neg (by decide),if_neg (by decide)];decide
 unfold fsN;rw[if_neg (fun e=>hp e.1)]
theorem kn_ge (S:Tb): ∀(k f p:Nat),k≤f→(∀i,i<k→atI S ((p+i:Nat):Int)=true)→k≤kn S p f
 |0,_,_,_,_=>Nat.zero_le _
 |k+1,0,p,h,_=>by omega
 |k+1,f+1,p,h,h1=>by
  have h0:=h1 0 (by omega);rw[Nat.add_zero]at h0;rw[kn,if_pos h0];have:=kn_ge S k f (p+1) (by omega) (fun i hi=>by rw[show p+1+i=p+(i+1) by omega];exact h1 (i+1) (by omega));omega
theorem sb_bl (X:ByteArray) (i:Nat) (h:i<X.size):(bl X)[i]? =some (sb X i):=by
 unfold sb bl;have hd:i<X.data.size:=h;rw[Array.getElem?_toList,Array.getElem?_eq_getElem hd];rfl
theorem bytes_are {S:Tb} {p:Nat} {X:ByteArray} (h: ∀i,i<X.size→S.b (p+i)=sb X i):bytesL S p X.size=bl X:=by
 apply List.ext_getElem (by rw[bytesL_len,bl_len]);intro i h1 h2;rw[bytesL_len]at h1;have h3:=sb_bl X i h1;rw[List.getElem?_eq_getElem h2]at h3;rw[Option.some.inj h3];simp only[bytesL,List.getElem_map,List.getElem_range];exact h i h1
theorem dN_yes {S:Tb} {p:Nat} {X:ByteArray} (hd:dgE X=0) (hR:p+X.size≤191*S.R) (hi: ∀i,i<X.size→S.is (p+i)=true) (hb: ∀i,i<X.size→S.b (p+i)=sb X i):dN S p=X.size:=by
 have h20:=dg_size hd;have hk:X.size≤kn S p 4080:=kn_ge S X.size 4080 p h20.2 (fun i h=>by rw[atI_nat',decide_eq_true (by omega),hi i h];rfl);refine fs_prefix hd (by rw[kn_size];exact hk) (bl_inj ?_);rw[ext_bl,List.drop_zero,Nat.sub_zero];unfold knS;rw[bl_str,←bytes_are hb];unfold bytesL;rw[←List.map_take,List.take_range,Nat.min_eq_left hk]
theorem dN_no {S:Tb} {p:Nat} (h:S.is p=false∨S.b p=0):dN S p=0:=by
 refine fs_none ?_;by_cases hk:kn S p 4080=0
 ·exact Or.inl (by rw[kn_size];exact hk)
 ·refine Or.inr ?_
  have h1:S.is p=true:=by
   rw[kn]at hk;by_cases ha:atI S p=true
   ·rw[atI_nat']at ha
    simp only[Bool.and_eq_true]at ha;exact ha.2
   ·rw[if_neg ha]at hk;exact absurd rfl hk
  have h2:S.b p=0:=by
   rcases h with h|h
   ·rw[h1]at h;cases h
   ·exact h
  unfold knS at0
  have h3:(bytesL S p (kn S p 4080))[0]? =some (S.b p):=by
   unfold bytesL;rw[List.getElem?_map,List.getElem?_range (by omega)];rfl
  have h4:(str (bytesL S p (kn S p 4080))).data[0]? =some (S.b p):=by
   rw[←h3];simp[str]
  rw[h4,h2];rfl
theorem below_count {L:List Nat} {p q:Nat} (hs:L.Pairwise (· < ·)) (hq:q∈L) (hp:p<q) (hmin: ∀z∈L,p<z→q≤z):(L.drop (below L (p+1))).head? =some q:=by
 induction L with
 |nil=>cases hq
 |cons x t ih=>
  have ht:=List.pairwise_cons.1 hs;by_cases hx:x<p+1
  ·have:below (x::t) (p+1)=below t (p+1)+1:=by unfold below;rw[List.countP_cons];simp[hx]
   rw[this,List.drop_succ_cons];refine ih ht.2 ?_ (fun z hz h=>hmin z (by simp[hz]) h);rcases List.mem_cons.1 hq with e|e
   ·omega
   ·exact e
  ·have h0:t.countP (fun z=>decide (z<p+1))=0:=by
    rw[List.countP_eq_zero];intro y hy;have:=ht.1 y hy;simp;omega
   have:below (x::t) (p+1)=0:=by unfold below;rw[List.countP_cons,h0];simp;omega
   rw[this,List.drop_zero,List.head?_cons];have h1:=hmin x (by simp) (by omega);rcases List.mem_cons.1 hq with e|e
   ·rw[e]
   ·have:=ht.1 q e;omega
theorem nxt_some {S:Tb} {p q:Nat} (hs:S.st.Pairwise (· < ·)) (hq:q∈S.st) (hp:p<q) (hmin: ∀z∈S.st,p<z→q≤z):nxt S p=some q:=below_count hs hq hp hmin
theorem nxt_none {S:Tb} {p:Nat} (h: ∀z∈S.st,z≤p):nxt S p=none:=by
 unfold nxt
 have h1:below S.st (p+1)=S.st.length:=by
  unfold below;rw[List.countP_eq_length];intro z hz;have:=h z hz;simp;omega
 rw[h1,List.drop_length];rfl
def told (g:List Int):Nat→List (Nat×ByteArray)→List (Nat×ByteArray)
 |_,[]=>[]
 |k,x::t=>if(k:Int)∈g then told g (k+1) t else x::told g (k+1) t
structure Has (T:Tb) (g:List Int) (k:Nat) (L:List (Nat×ByteArray)) (u:Nat):Prop where
 ok:Ok T
 ul:u≤191*T.R
 is: ∀x∈told g k L,∀i,i<x.2.size→T.is (x.1+i)=true∧T.b (x.1+i)=sb x.2 i
 no: ∀j x,L[j]? =some x→((k+j:Nat):Int)∈g→T.is x.1=false
 en:T.is u=false∨T.b u=0
 st: ∀j x,L[j]? =some x→((k+j:Nat):Int)∉g→x.1∈T.st
theorem Has.tail {T:Tb} {g:List Int} {k u:Nat} {y:Nat×ByteArray} {t:List (Nat×ByteArray)} (h:Has T g k (y::t) u):Has T g (k+1) t u:=
 ⟨h.ok,h.ul,fun x hx=>h.is x (by rw[told];split;exact hx;exact List.mem_cons_of_mem _ hx),fun j x hj hg=>h.no (j+1) x hj (by rw[show k+(j+1)=k+1+j by omega];exact hg),h.en,
  fun j x hj hg=>h.st (j+1) x hj (by rw[show k+(j+1)=k+1+j by omega];exact hg)⟩
def Only (T:Tb) (g:List Int) (k:Nat) (L:List (Nat×ByteArray)) (b:Nat):Prop:= ∀z∈T.st,b<z→ ∃j x,L[j]? =some x∧((k+j:Nat):Int)∉g∧z=x.1
theorem walk {T:Tb} {g:List Int} {u:Nat}: ∀(L:List (Nat×ByteArray)) (k a:Nat),Chain a L u→Has T g k L u→
 (∀(_:Only T g k L a),outAt T a=(told g k L).map (fun x=>(x.1,x.2.size)))∧(∀b,b<a→dN T b=0→Only T g k L b→outAt T b=(told g k L).map (fun x=>(x.1,x.2.size)))
 |[],k,a,hc,h=>by
  obtain rfl:a=u:=hc;have hd:=dN_no h.en;refine⟨fun ho=>outAt_end h.ul (by rw[hd];decide) (nxt_none fun z hz=>?_),fun b hb hdb ho=>outAt_end (by have:=h.ul;omega) (by rw[hdb];decide) (nxt_none fun z hz=>?_)⟩
  ·rcases Nat.lt_or_ge a z with h1|h1
   ·obtain⟨j,x,hj,_⟩:=ho z hz h1
    simp at hj
   ·exact h1
  ·rcases Nat.lt_or_ge b z with h1|h1
   ·obtain⟨j,x,hj,_⟩:=ho z hz h1
    simp at hj
   ·exact h1
 |(q,d)::t,k,a,hc,h=>by
  obtain⟨hqa,hd,hct⟩:=hc;subst hqa;have h20:=dg_size hd;obtain⟨ihM,ihN⟩:=walk t (k+1) (q+d.size) hct h.tail;have hcle:=chain_le hct;have hu:=h.ul
  have main:Only T g k ((q,d)::t) q→outAt T q=(told g k ((q,d)::t)).map (fun x=>(x.1,x.2.size)):=fun ho=>by
   have ho2:Only T g (k+1) t q:=fun z hz hqz=>by
    obtain⟨j,x,hj,hg,rfl⟩:=ho z hz hqz
    cases j with
    |zero=>simp at hj;subst hj;exact absurd hqz (Nat.lt_irrefl _)
    |succ j=>exact⟨j,x,hj,by rw[show k+1+j=k+(j+1) by omega];exact hg,rfl⟩
   by_cases hg:(k:Int)∈g
   ·have hn:dN T q=0:=dN_no (Or.inl (h.no 0 (q,d) rfl (by rw[Nat.add_zero];exact hg)))
    rw[told,if_pos hg];exact ihN q (by omega) hn ho2
   ·have hy:dN T q=d.size:=dN_yes hd (by omega) (fun i hi=>(h.is (q,d) (by rw[told,if_neg hg];exact List.mem_cons_self ..) i hi).1) (fun i hi=>(h.is (q,d) (by rw[told,if_neg hg];exact List.mem_cons_self ..) i hi).2)
    rw[outAt_yes h.ok (by omega) (by rw[hy];omega),hy,told,if_neg hg,List.map_cons]
    congr 1
    exact ihM (fun z hz hqz=>ho2 z hz (by omega))
  refine⟨main,fun b hb hdb ho=>?_⟩;by_cases hg:(k:Int)∈g
  ·rw[told,if_pos hg]
   refine ihN b (by omega) hdb (fun z hz hbz=>?_);obtain⟨j,x,hj,hgj,rfl⟩:=ho z hz hbz
   cases j with
   |zero=>exact absurd (by rw[Nat.add_zero];exact hg) hgj
   |succ j=>exact⟨j,x,hj,by rw[show k+1+j=k+(j+1) by omega];exact hgj,rfl⟩
  ·have hq:q∈T.st:=h.st 0 (q,d) rfl (by rw[Nat.add_zero];exact hg)
   have hn:nxt T b=some q:=nxt_some h.ok.up hq hb (fun z hz hbz=>by
    obtain⟨j,x,hj,_,rfl⟩:=ho z hz hbz
    cases j with
    |zero=>simp at hj;subst hj;exact Nat.le_refl _
    |succ j=>
     have:=(chain_in hct x (List.mem_of_getElem? hj)).1;omega)
   rw[outAt_next h.ok (by omega) (by rw[hdb];decide) hn];exact main (fun z hz hqz=>ho z hz (by omega))
theorem ins_mem {L:List Nat} {i x:Nat} {z:Nat}:z∈ins L i x↔z=x∨z∈L:=by
 unfold ins;rw[List.mem_append,List.mem_cons];constructor
 ·rintro(h|h|h)
  ·exact Or.inr (List.mem_of_mem_take h)
  ·exact Or.inl h
  ·exact Or.inr (List.mem_of_mem_drop h)
 ·rintro(h|h)
  ·exact Or.inr (Or.inl h)
  ·rw[←List.take_append_drop i L,List.mem_append]at h
   rcases h with h|h
   ·exact Or.inl h
   ·exact Or.inr (Or.inr h)
end Go.Proofs.YtdbpkhnmhddmmaaGreatDoor.LaP
namespace Go.Proofs.YtdbpkhnmhddmmaaGreatDoor.LaQ
open Go St DgC TlS TbM TbO TbP TbQ GfP PoP RsP PoA MdP TbV TbW FrA FrB LaH LaI LaP
structure LayF (F:Fr):Prop where
 at_: ∀x∈F.L,∀i,i<x.2.size→ ∀r c,r<F.R→c*F.R+r=x.1+i→F.D r c=sb x.2 i
 no: ∀r c,r<F.R→F.used≤c*F.R+r→F.D r c=0
 old:F.old=false→ ∀r c,F.D r c=0
theorem lay_empty (R C K:Nat):LayF (emptyF R C K):=⟨fun x hx=>(by cases hx),fun _ _ _ _=>rfl,fun _ _ _=>rfl⟩
theorem lay_add {S:Fr} (h:LayF S) (ho:OkL S) (d:ByteArray):LayF (addS S d):=by
 unfold addS
 split
 ·exact h
 ·refine⟨fun x hx i hi r c hr hp=>?_,fun r c hr hp=>?_,fun e=>by cases e⟩
  ·show(if S.used≤c*S.R+r∧c*S.R+r<S.used+d.size then sb d (c*S.R+r-S.used)else S.D r c)=_
   have hp:c*S.R+r=x.1+i:=hp;have hx:x∈S.L++[(S.used,d)]:=hx;rcases List.mem_append.1 hx with hx|hx
   ·have h1:=chain_in ho.ch x hx
    rw[if_neg (by omega)];exact h.at_ x hx i hi r c hr hp
   ·rw[List.mem_singleton]at hx
    subst hx;dsimp only at hp hi ⊢;rw[if_pos (by omega),hp,Nat.add_sub_cancel_left]
  ·show(if S.used≤c*S.R+r∧c*S.R+r<S.used+d.size then sb d (c*S.R+r-S.used)else S.D r c)=_
   have hp:S.used+d.size≤c*S.R+r:=hp;rw[if_neg (by omega)];exact h.no r c hr (by omega)
theorem fresh_data (F:Fr) (r c:Nat) (hc:c<191):(FrC.freshS F).D r c=F.D r c:=by
 unfold FrC.freshS
 split
 ·exact FrC.frI_data F F.R r c hc
 ·rfl
def rowC (F:Fr) (r:Nat):List UInt8:=(List.range 255).map ((FrC.freshS F).D r)
theorem rowC_at (F:Fr) (r c:Nat) (hc:c<255):fa (rowC F r) c=(FrC.freshS F).D r c:=fa_map 255 _ c hc
set_option maxRecDepth 100000 in
theorem rowC_word {F:Fr} (h:LayF F) (r:Nat) (hrr:r<F.R) (j:Nat) (hj:j<64):hr (rowC F r) (ex j)=0:=by
 cases ho:F.old with
 |false=>
  rw[hr_sum];refine sm_zero (fun i hi=>?_);have hi:i<255:=by simpa [rowC]using hi
  have:(rowC F r).getD i 0=0:=by
   have h1:=rowC_at F r i hi;unfold fa at h1;rw[h1,show FrC.freshS F=F by unfold FrC.freshS;rw[ho];rfl];exact h.old ho r i
  rw[this,zero_gm]
 |true=>
  have he:rowC F r=FrC.rowL F r++enc (FrC.rowL F r):=by
   refine List.ext_getElem (by rw[List.length_append,enc_len];simp[rowC,FrC.rowL]) (fun n h1 h2=>?_);have hn:n<255:=by simpa [rowC]using h1
   have hf:FrC.freshS F={FrC.frI F F.R with old:=false}:=by unfold FrC.freshS;rw[ho,if_pos rfl]
   have hl:(FrC.rowL F r).length=191:=by simp[FrC.rowL]
   rw[show(rowC F r)[n]=(FrC.freshS F).D r n by simp[rowC],hf];show(if r<F.R∧191≤n then(enc (FrC.rowL F r)).getD (n-191) 0 else F.D r n)=_;by_cases hn2:n<191
   ·rw[if_neg (by omega),List.getElem_append_left (by omega)]
    simp[FrC.rowL]
   ·rw[if_pos ⟨hrr,by omega⟩,List.getElem_append_right (by omega),List.getD_eq_getElem?_getD,List.getElem?_eq_getElem (by rw[enc_len];omega),Option.getD_some]
    simp only[hl]
  rw[he];exact word_ok _ j hj
def Dp (F:Fr) (q:Nat):UInt8:=(FrC.freshS F).D (q%256) (q/256)
theorem Dp_at (F:Fr) (r c:Nat) (hr:r<256):Dp F (c*256+r)=(FrC.freshS F).D r c:=by
 obtain⟨h1,h2⟩:=place_div (c:=c) hr;unfold Dp;rw[h1,h2]
theorem Dp_gram {F:Fr} (h:LayF F) (hR:F.R=256) (ho:OkL F) (x:Nat×ByteArray) (hx:x∈F.L) (i:Nat) (hi:i<x.2.size):Dp F (x.1+i)=sb x.2 i:=by
 have h1:=chain_in ho.ch x hx;have h2:=ho.ok.u;have h3:F.R*F.C≤256*191:=by rw[hR];exact Nat.mul_le_mul_left _ ho.ok.C
 unfold Dp;rw[fresh_data _ _ _ (by omega)];exact h.at_ x hx i hi _ _ (by omega) (by rw[hR];omega)
theorem Dp_none {F:Fr} (h:LayF F) (hR:F.R=256) (q:Nat) (h1:F.used≤q) (h2:q<191*256):Dp F q=0:=by
 unfold Dp;rw[fresh_data _ _ _ (by omega)];exact h.no _ _ (by omega) (by rw[hR];omega)
structure Kn (F:Fr) (T:Tb) (A B:Nat→Prop):Prop where
 R:T.R=256
 is: ∀q,T.is q=true↔A q
 b: ∀q,A q→T.b q=Dp F q
 z: ∀q,¬A q→T.b q=0
 st: ∀q,q∈T.st↔B q
section
variable {F:Fr} {T U:Tb} {A B A' B':Nat→Prop}
theorem Kn.congr (h:Kn F T A B) (hA: ∀q,A q↔A' q) (hB: ∀q,B q↔B' q):Kn F T A' B':=
 ⟨h.R,fun q=>(h.is q).trans (hA q),fun q hq=>h.b q ((hA q).2 hq),fun q hq=>h.z q (fun e=>hq ((hA q).1 e)),fun q=>(h.st q).trans (hB q)⟩
theorem kn_empty (F:Fr):Kn F (emptyT 256) (fun _=>False) (fun _=>False):=
 ⟨rfl,fun q=>⟨fun h=>(by cases h),fun h=>h.elim⟩,fun q h=>h.elim,fun _ _=>rfl,fun q=>⟨fun h=>(by cases h),fun h=>h.elim⟩⟩
theorem laid_iff (S:Tb) (p:Nat) (s:ByteArray) (k q:Nat):(laid S p s k).is q=true↔S.is q=true∨(p≤q∧q<p+k):=by
 show(if p≤q∧q<p+k then true else S.is q)=true↔_;by_cases h:p≤q∧q<p+k
 ·rw[if_pos h];exact⟨fun _=>Or.inr h,fun _=>rfl⟩
 ·rw[if_neg h];exact⟨Or.inl,fun e=>e.elim id (fun e=>absurd e h)⟩
theorem kn_put (h:Kn F T A B) (hl:LayF F) (hR:F.R=256) (ho:OkL F) (x:Nat×ByteArray) (hx:x∈F.L):Kn F (putS T (x.1:Int) x.2) (fun q=>A q∨(x.1≤q∧q<x.1+x.2.size)) (fun q=>B q∨q=x.1):=by
 have h1:=chain_in ho.ch x hx;have h2:=ho.ok.u;have h3:F.R*F.C≤256*191:=by rw[hR];exact Nat.mul_le_mul_left _ ho.ok.C
 have h20:=dg_size h1.2.2
 have hpe:putE T.R (x.1:Int) x.2=0:=by
  unfold putE;rw[h.R,if_neg (by omega)]
 have hS:putS T (x.1:Int) x.2={laid T x.1 x.2 x.2.size with st:=if x.1∈T.st then T.st else ins T.st (below T.st x.1) x.1}:=by
  unfold putS;rw[if_neg (by rw[hpe];rintro(h|h);exact h rfl;omega)];rfl
 rw[hS];refine⟨h.R,fun q=>?_,fun q hq=>?_,fun q hq=>?_,fun q=>?_⟩
 ·rw[show({laid T x.1 x.2 x.2.size with st:=if x.1∈T.st then T.st else ins T.st (below T.st x.1) x.1}:Tb).is q=(laid T x.1 x.2 x.2.size).is q from rfl,laid_iff,h.is]
 ·show(if x.1≤q∧q<x.1+x.2.size then sb x.2 (q-x.1)else T.b q)=_
  by_cases e:x.1≤q∧q<x.1+x.2.size
  ·rw[if_pos e,←Dp_gram hl hR ho x hx (q-x.1) (by omega),show x.1+(q-x.1)=q by omega]
  ·rw[if_neg e]
   exact h.b q (hq.elim id (fun e2=>absurd e2 e))
 ·show(if x.1≤q∧q<x.1+x.2.size then sb x.2 (q-x.1)else T.b q)=_
  rw[if_neg (fun e=>hq (Or.inr e))];exact h.z q (fun e=>hq (Or.inl e))
 ·show q∈(if x.1∈T.st then T.st else ins T.st (below T.st x.1) x.1)↔_
  rw[←h.st q];by_cases e:x.1∈T.st
  ·rw[if_pos e]
   exact⟨Or.inl,fun h=>h.elim id (fun e2=>e2▸e)⟩
  ·rw[if_neg e,ins_mem]
   exact Or.comm
theorem sb_str (l:List UInt8) (i:Nat) (h:i<l.length):sb (str l) i=l[i]:=by
 have h1:=sb_bl (str l) i (by rw[str_size];exact h);rw[bl_str,List.getElem?_eq_getElem h]at h1;exact(Option.some.inj h1).symm
theorem kn_par (h:Kn F T A B) (hR:F.R=256) (k:Nat) (hk:k<64):Kn F (TbR.parS T (k:Int) (str (FrC.colS (FrC.freshS F) (191+k)))) (fun q=>A q∨((191+k)*256≤q∧q<(191+k)*256+256)) B:=by
 have hl:(FrC.colS (FrC.freshS F) (191+k)).length=256:=by unfold FrC.colS;rw[List.length_map,List.length_range,FrC.fresh_R,hR]
 have hsz:(str (FrC.colS (FrC.freshS F) (191+k))).size=256:=by rw[str_size,hl]
 have hS:TbR.parS T (k:Int) (str (FrC.colS (FrC.freshS F) (191+k)))=laid T ((191+k)*256) (str (FrC.colS (FrC.freshS F) (191+k))) 256:=by
  unfold TbR.parS TbR.parE;rw[if_neg (by rw[if_neg (by omega),if_neg (by rw[hsz,h.R];simp)];simp),hsz,h.R,Int.toNat_natCast]
 rw[hS];refine⟨h.R,fun q=>?_,fun q hq=>?_,fun q hq=>?_,h.st⟩
 ·rw[laid_iff,h.is]
 ·show(if(191+k)*256≤q∧q<(191+k)*256+256 then sb (str (FrC.colS (FrC.freshS F) (191+k))) (q-(191+k)*256)else T.b q)=_
  by_cases e:(191+k)*256≤q∧q<(191+k)*256+256
  ·rw[if_pos e,sb_str _ _ (by rw[hl];omega)]
   obtain⟨r,hr⟩: ∃r,q-(191+k)*256=r:=⟨_,rfl⟩;have hq2:q=(191+k)*256+r:=by omega
   simp only[hr];rw[show Dp F q=(FrC.freshS F).D r (191+k) by rw[hq2,Dp_at _ _ _ (by omega)]];simp[FrC.colS]
  ·rw[if_neg e]
   exact h.b q (hq.elim id (fun e2=>absurd e2 e))
 ·show(if(191+k)*256≤q∧q<(191+k)*256+256 then sb (str (FrC.colS (FrC.freshS F) (191+k))) (q-(191+k)*256)else T.b q)=_
  rw[if_neg (fun e=>hq (Or.inr e))];exact h.z q (fun e=>hq (Or.inl e))
theorem pad_low {F:Fr} (ho:OkL F) (hR:F.R=256):padN F≤191∧F.used≤(191-padN F)*256:=by
 have h2:=ho.ok.u;have h3:F.R*F.C≤256*191:=by rw[hR];exact Nat.mul_le_mul_left _ ho.ok.C
 by_cases h0:F.used=0
 ·unfold padN
  rw[if_pos h0];omega
 ·have h1:padN F=190-(F.used-1)/256:=by unfold padN;rw[if_neg h0,hR]
  rw[h1];clear h1;obtain⟨z,hz⟩: ∃z,F.used-1=z:=⟨_,rfl⟩;rw[hz];omega
theorem kn_pad (h:Kn F T A B) (hl:LayF F) (hR:F.R=256) (ho:OkL F):Kn F (TbR.padS T (padN F:Nat)) (fun q=>A q∨((191-padN F)*256≤q∧q<191*256)) B:=by
 obtain⟨p1,p2⟩:=pad_low ho hR
 have hS:TbR.padS T (padN F:Nat)={T with is:=fun p=>if(191-padN F)*256≤p∧p<191*256 then true else T.is p}:=by
  unfold TbR.padS TbR.padE;rw[if_neg (by rw[if_neg (by omega)];simp),Int.toNat_natCast,h.R]
 rw[hS];refine⟨h.R,fun q=>?_,fun q hq=>?_,fun q hq=>h.z q (fun e=>hq (Or.inl e)),h.st⟩
 ·show(if(191-padN F)*256≤q∧q<191*256 then true else T.is q)=true↔_
  rw[←h.is q];by_cases e:(191-padN F)*256≤q∧q<191*256
  ·rw[if_pos e];exact⟨fun _=>Or.inr e,fun _=>rfl⟩
  ·rw[if_neg e];exact⟨Or.inl,fun h=>h.elim id (fun e2=>absurd e2 e)⟩
 ·show T.b q=_
  by_cases e:A q
  ·exact h.b q e
  ·rcases hq with hq|hq
   ·exact absurd hq e
   ·rw[h.z q e,Dp_none hl hR q (by omega) hq.2]
theorem Kn.row (h:Kn F T A B) (hl:LayF F) (hR:F.R=256) (r:Nat) (hr:r<T.R):RowOf T r (rowC F r):=by
 rw[h.R]at hr;refine⟨by simp[rowC],fun j hj=>rowC_word hl r (by rw[hR];exact hr) j hj,fun c hc hi=>?_⟩;rw[h.R]at hi ⊢;rw[h.b _ ((h.is _).1 hi),Dp_at F r c hr,rowC_at F r c hc]
end
end Go.Proofs.YtdbpkhnmhddmmaaGreatDoor.LaQ
namespace Go.Proofs.YtdbpkhnmhddmmaaGreatDoor.LaR
open Go St BiH DgB DgC TlS TbM TbO TbP TbQ TbT TbU PoA TbV TbW FrA FrB LaE LaH LaI LaP LaQ
theorem fs_strict {X:ByteArray} (h:dgE X=0) (k:Nat) (hk:k<X.size):fsN (X.extract 0 k)=0:=by
 have h20:=dg_size h
 have hp:pkE X=0:=by
  unfold dgE at h
  split at h
  ·rename_i h1;exact absurd h h1
  ·rename_i h1;simpa using h1
 have hl:(pkH X).length=X.size:=by
  unfold dgE at h;rw[if_neg (by simpa using hp)]at h
  split at h
  ·cases h
  ·split at h
   ·cases h
   ·omega
 obtain⟨s,hs⟩: ∃s,X.extract 0 k=s:=⟨_,rfl⟩;have hsz:s.size=k:=by rw[←hs,ByteArray.size_extract];omega
 have ha: ∀i,i<k→at0 s i=at0 X i:=fun i hi=>by
  rw[←hs];unfold at0;rw[ByteArray.data_extract,Array.getElem?_extract,if_pos (by have:X.size=X.data.size:=rfl;omega),Nat.zero_add]
 rw[hs];unfold fsN;rw[if_neg];rintro⟨e1,e2,_⟩
 have hlen:(pkH s).length=X.size:=by
  rw[←hl];have e3:=e1;have hp2:=hp;unfold pkE at e3 hp2;rw[if_neg (by omega)]at hp2;rw[hsz]at e3;by_cases hk0:k=0
  ·rw[if_pos hk0]at e3;cases e3
  rw[if_neg hk0]at e3;by_cases h4:at0 s 0/16=4
  ·rw[if_pos h4]at e3
   have x4:at0 X 0/16=4:=by rw[←ha 0 (by omega)];exact h4
   by_cases h20s:k<20
   ·rw[if_pos h20s]at e3;cases e3
   ·unfold pkH
    rw[if_pos e1,if_pos hp,if_pos h4,if_pos x4];unfold hd4;rw[ha 0 (by omega),ha 2 (by omega),ha 3 (by omega),ha 9 (by omega)]
  ·rw[if_neg h4]at e3
   by_cases h6:at0 s 0/16=6
   ·rw[if_pos h6]at e3
    have x6:at0 X 0/16=6:=by rw[←ha 0 (by omega)];exact h6
    by_cases h40:k<40
    ·rw[if_pos h40]at e3;cases e3
    ·unfold pkH
     rw[if_pos e1,if_pos hp,if_neg h4,if_neg (by omega)];unfold hd6;rw[ha 4 (by omega),ha 5 (by omega),ha 6 (by omega)]
   ·rw[if_neg h6]at e3;cases e3
 rw[hlen,hsz]at e2;omega
theorem kn_stop (S:Tb): ∀(i f p:Nat),atI S ((p+i:Nat):Int)=false→kn S p f≤i
 |_,0,_,_=>Nat.zero_le _
 |0,f+1,p,h=>by
  rw[Nat.add_zero]at h;rw[kn,if_neg (by rw[h];decide)];omega
 |i+1,f+1,p,h=>by
  rw[kn]
  split
  ·have:=kn_stop S i f (p+1) (by rw[show p+1+i=p+(i+1) by omega];exact h)
   omega
  ·omega
theorem kn_all (S:Tb): ∀(f p i:Nat),i<kn S p f→atI S ((p+i:Nat):Int)=true
 |0,p,i,h=>by rw[kn]at h;omega
 |f+1,p,0,h=>by
  rw[kn]at h
  split at h
  ·assumption
  ·omega
 |f+1,p,i+1,h=>by
  rw[kn]at h
  split at h
  ·have:=kn_all S f (p+1) i (by omega)
   rw[show p+1+i=p+(i+1) by omega]at this;exact this
  ·omega
theorem dN_part {S:Tb} {p i:Nat} {X:ByteArray} (hd:dgE X=0) (hb: ∀j,j<X.size→S.is (p+j)=true→S.b (p+j)=sb X j) (hi:i<X.size) (hn:S.is (p+i)=false):dN S p=0:=by
 have h1:kn S p 4080≤i:=kn_stop S i 4080 p (by rw[atI_nat',hn,Bool.and_false])
 have h2:knS S p=X.extract 0 (kn S p 4080):=by
  refine bl_inj ?_;unfold knS;rw[bl_str,ext_bl,List.drop_zero,Nat.sub_zero];apply List.ext_getElem (by rw[bytesL_len,List.length_take,bl_len];omega);intro j h3 h4;rw[bytesL_len]at h3;have h5:=kn_all S 4080 p j h3;rw[atI_nat',Bool.and_eq_true]at h5;have h6:=sb_bl X j (by omega);rw[List.getElem_take];rw[List.getElem?_eq_getElem (by rw[bl_len];omega)]at h6;rw[Option.some.inj h6];simp only[bytesL,List.getElem_map,List.getElem_range];exact hb j (by omega) h5.2
 show fsN (knS S p)=0;rw[h2];exact fs_strict hd _ (by omega)
theorem dN_out {S:Tb} {p:Nat} (h:191*S.R≤p):dN S p=0:=by
 refine fs_none (Or.inl ?_);rw[kn_size];have:kn S p 4080≤0:=kn_stop S 0 4080 p (by rw[Nat.add_zero,atI_nat',decide_eq_false (by omega)];rfl);omega
def Whole (S:Tb) (x:Nat×ByteArray):Prop:= ∀i,i<x.2.size→S.is (x.1+i)=true
section
variable {F:Fr} {S:Tb}
theorem cnt_zero {T:Tb} {n:Nat} (h:cntF T n=0) (r:Nat) (hr:r<n):badR T r=false:=by
 unfold cntF at h;have h1:=List.eq_nil_of_length_eq_zero h;rw[List.filter_eq_nil_iff]at h1;simpa using h1 r (List.mem_range.2 hr)
theorem mended_whole {T:Tb} (hR:T.R=256) (h:cntF T 256=0) (C:Nat→List UInt8) (q:Nat) (hq:q<191*256):(mdS T C 256).is q=true:=by
 have hr:q%256<T.R:=by rw[hR];exact Nat.mod_lt _ (by decide)
 have hc:q/256<255:=by omega
 have hqq:q=q/256*T.R+q%256:=by rw[hR];omega
 have e1:=mdS_is T C 256 (q%256) (q/256) hr hc;rw[←hqq]at e1;rw[e1]
 split
 ·rfl
 ·rename_i hno
  have hb:=cnt_zero h (q%256) (Nat.mod_lt _ (by decide))
  cases hi:T.is q with
  |true=>rfl
  |false=>
   exfalso;apply hno;refine⟨Nat.mod_lt _ (by decide),?_⟩;have hm:q/256∈lostL T (q%256):=(lost_mem T (q%256) (q/256)).2 ⟨hc,by rw[←hqq];exact hi⟩;have hp:=List.length_pos_of_mem hm;unfold badR at hb;have hb:=of_decide_eq_false hb;exact decide_eq_true ⟨hp,by omega⟩
end
end Go.Proofs.YtdbpkhnmhddmmaaGreatDoor.LaR
