import Derived.Test.YtibjkhepedfpiaaGreatDoorSgPkV
namespace Go.Proofs.YtibjkhepedfpiaaGreatDoor.RtM
open Go Go.RowKit Q Mem Rg Ap ApG St BiW TlS TbM TbN TbO TbP TbR
set_option maxRecDepth 100000
section
variable {w w':World} {B gx g1 g2 g3:Nat} {S:Tb}
end
end Go.Proofs.YtibjkhepedfpiaaGreatDoor.RtM
namespace Go.Proofs.YtibjkhepedfpiaaGreatDoor.RtN
open Go Go.RowKit Q Mem Rg Ap ApG St BiW TlS TbM TbN TbO TbP TbR RtM
set_option maxRecDepth 100000
variable {w w':World} {B gx g1 g2 g3:Nat} {S:Tb}
theorem ins_mem (L:List Nat) (i x p:Nat):p∈ins L i x↔p=x∨p∈L:=by
 unfold ins;rw[List.mem_append,List.mem_cons];constructor
 ·rintro(h|h|h)
  ·exact Or.inr (List.mem_of_mem_take h)
  ·exact Or.inl h
  ·exact Or.inr (List.mem_of_mem_drop h)
 ·rintro(h|h)
  ·exact Or.inr (Or.inl h)
  ·have:p∈L.take i++L.drop i:=by rw[List.take_append_drop];exact h
   rcases List.mem_append.1 this with h|h
   ·exact Or.inl h
   ·exact Or.inr (Or.inr h)
end Go.Proofs.YtibjkhepedfpiaaGreatDoor.RtN
namespace Go.Proofs.YtibjkhepedfpiaaGreatDoor.RtO
open Go Go.RowKit Q Mem Rg Ap ApG St BiW TlS TbM TbN TbO TbP TbQ TbR RtM RtN
set_option maxRecDepth 100000
end Go.Proofs.YtibjkhepedfpiaaGreatDoor.RtO
namespace Go.Proofs.YtibjkhepedfpiaaGreatDoor.RtP
open Go Go.RowKit Q Mem Rg Ap ApG St BiW DgB DgC DgF DgG TlS TbM TbN TbO TbP TbQ TbR TbT TbU RtM RtN RtO
set_option maxRecDepth 100000
end Go.Proofs.YtibjkhepedfpiaaGreatDoor.RtP
namespace Go.Proofs.YtibjkhepedfpiaaGreatDoor.RtQ
open Go Go.RowKit Q Mem Rg Ap ApG St BiW TlS TbM TbN TbO TbP TbQ TbR TbT TbU RtM RtN RtO RtP
set_option maxRecDepth 100000
theorem take_below {L:List Nat} (hs:L.Pairwise (· < ·)) (p:Nat): ∀z∈L.take (below L p),z<p:=by
 induction L with
 |nil=>intro z hz;simp at hz
 |cons x t ih=>
  intro z hz;have ht:=List.pairwise_cons.1 hs;unfold below at hz;rw[List.countP_cons]at hz;by_cases hx:x<p
  ·simp only[hx,decide_true,if_true,List.take_succ_cons]at hz
   rcases List.mem_cons.1 hz with rfl|hz
   ·exact hx
   ·exact ih ht.2 z hz
  ·simp only[hx,decide_false,Bool.false_eq_true,if_false,Nat.add_zero]at hz
   have h0:t.countP (fun z=>decide (z<p))=0:=by
    rw[List.countP_eq_zero];intro y hy;have:=ht.1 y hy;simp;omega
   rw[h0,List.take_zero]at hz
   cases hz
end Go.Proofs.YtibjkhepedfpiaaGreatDoor.RtQ
namespace Go.Proofs.YtibjkhepedfpiaaGreatDoor.LaA
open Go Go.RowKit Q Mem Rg St BiW BiG CrB DgC DgM DgN
set_option maxRecDepth 100000
def fillB (f:Nat→UInt8) (k:Nat):List UInt8:=(List.range k).map f
theorem fill_len (f:Nat→UInt8) (k:Nat):(fillB f k).length=k:=by simp[fillB]
theorem fill_succ (f:Nat→UInt8) (k:Nat):fillB f (k+1)=fillB f k++[f k]:=by simp[fillB,List.range_succ]
theorem fill_set {W:World} {g k q:Nat} {f:Nat→UInt8} (hR:Blk W g 5 (rowB (fillB f q) (k-q))) (hq:q<k):Blk (W.setCell ⟨g,q,none⟩ (.int .u8 ((f q).toNat:Int))) g 5 (rowB (fillB f (q+1)) (k-(q+1))):=by
 obtain⟨m,hm⟩: ∃m,k-q=m+1:=⟨k-q-1,by omega⟩;rw[hm]at hR;have h1:=hR.set_ q (u8v (f q));have h2:=rowB_set (fillB f q) m (f q);rw[fill_len,←fill_succ]at h2;rw[h2,show m=k-(q+1) by omega]at h1;exact h1
theorem fill_cell {W:World} {g k q:Nat} {f:Nat→UInt8} (hR:Blk W g 5 (rowB (fillB f q) (k-q))) (hq:q<k):W.cell? ⟨g,q,none⟩=some (.int .u8 0):=by
 obtain⟨m,hm⟩: ∃m,k-q=m+1:=⟨k-q-1,by omega⟩;rw[hm]at hR;exact Blk.cell hR q (by have:=rowB_at (fillB f q) m;rw[fill_len]at this;exact this)
def f7 (b i:Nat):UInt8:=UInt8.ofNat ((b+i%7)%256)
def f1 (b i:Nat):UInt8:=UInt8.ofNat ((b+i%256)%256)
def madeK (n:Int):Nat:=(max 0 (min n 4060)).toNat
def madeD (n:Int) (b:Nat):ByteArray:=mkD ⟨#[97,98,99,100]⟩ ⟨#[101,102,103,104]⟩ b (str (fillB (f7 b) (madeK n)))
def colS (n:Int) (b:Nat):ByteArray:=str (fillB (f1 b) (max 0 n).toNat)
theorem made_ok (n:Int) (b:Nat):dgE (madeD n b)=0∧(madeD n b).size=20+madeK n:=by
 have hl:(str (fillB (f7 b) (madeK n))).size=madeK n:=by rw[←bl_len,bl_str,fill_len]
 have:=mk_ok ⟨#[97,98,99,100]⟩ ⟨#[101,102,103,104]⟩ (str (fillB (f7 b) (madeK n))) b rfl rfl (by rw[hl];unfold madeK;omega);rw[hl]at this;exact this
set_option maxHeartbeats 1600000 in
theorem made_any (n:Int) (b:Nat) (w:World) (hb:b<256):Calls Tryz.prog 50 #[.int .i64 n,.int .u8 (b:Int)] w fun e w'=>e= .returned (.string (madeD n b))∧Below w.heap.size w w':=by
 have HY:=Lib.hid (show madeD n b=mkD ⟨#[97,98,99,100]⟩ ⟨#[101,102,103,104]⟩ b (str (fillB (f7 b) (madeK n)))from rfl);obtain⟨m,hm⟩: ∃m,min n 4060=m:=⟨_,rfl⟩;obtain⟨k,hk⟩: ∃k,madeK n=k:=⟨_,rfl⟩
 have hmn: ∀(ts:Array TypeId) (ty:TypeId) (V:World),(Builtin.min_ ts ty #[.int .i64 n,.int .i64 4060]).run Tryz.prog V= .ok (.int .i64 m) V:=fun ts ty V=>by
  rw[run_min_int2]
  congr 2
  split<;>omega
 have hmx: ∀(ts:Array TypeId) (ty:TypeId) (V:World),(Builtin.max_ ts ty #[.int .i64 0,.int .i64 m]).run Tryz.prog V= .ok (.int .i64 (k:Int)) V:=fun ts ty V=>by
  rw[run_max_int2]
  congr 2
  unfold madeK at hk
  split<;>omega
 have hk4:k≤4060:=by unfold madeK at hk;omega
 have hmk:=fun V=>mk_bytes k (by omega) V;have hb9:(b:Int)<256:=by omega
 have hb0:(0:Int)≤(b:Int):=Int.natCast_nonneg _;rw[hk]at HY;clear hk hm
 go_enter Tryz.func50,Tryz.ntmps50
 go_wp2_with fail
 go_loopw [6] (fun i wr=> ∃q:Nat,q≤k∧i= .int .i64 q∧Hid (Blk wr w.heap.size 5 (rowB (fillB (f7 b) q) (k-q))∧Below w.heap.size w wr)) (fun i _=>k-(intOf i).toNat)
 case atStart=>exact⟨0,by omega,rfl,Lib.hid ⟨Blk.new _ _ _,(Below.refl _ _).alloc (Nat.le_refl _) _⟩⟩
 case round=>
  obtain⟨q,hq,rfl,hI⟩:=hrel;obtain⟨hR,hE⟩:=hI.out;by_cases hqk:q<k
  ·have t1:decide (q<k)=true:=decide_eq_true hqk
   have r1:=fill_cell hR hqk;have r2:=Blk.frozen hR q;have h1:=fill_set hR hqk
   have h3:((f7 b q).toNat:Int)=((b:Int)+(q:Int)%7)%256:=by
    unfold f7;rw[UInt8.toNat_ofNat'];omega
   rw[h3]at h1;have hE2:=hE.setCell (p:=⟨w.heap.size,q,none⟩) (Nat.le_refl _) (.int .u8 (((b:Int)+(q:Int)%7)%256));have HX:=Lib.hid (And.intro h1 hE2);have q0:(0:Int)≤(q:Int):=Int.natCast_nonneg _;have q1:(q:Int)<(k:Int):=by omega
   clear h1 h3 hE2 hR hE hI
   go_wp2_with fail
   go_roundw
   case rel=>exact⟨q+1,by omega,by go_num,HX⟩
   case measure=>simp[intOf];omega
  ·obtain rfl:q=k:=by omega
   have t1:decide (q<q)=false:=by simp
   rw[Nat.sub_self]at hR;have hc:=conv_row (l:=fillB (f7 b) q) (n:=q) hR (fill_len _ q) q;have hbz:(str (fillB (f7 b) q)).size≤4060:=by rw[←bl_len,bl_str,fill_len];omega
   have km:=fun V=>make_any ⟨#[97,98,99,100]⟩ ⟨#[101,102,103,104]⟩ (str (fillB (f7 b) q)) (b:Int) V (by decide) (by decide) hbz (by omega);rw[←HY.out]at km;clear hbz hR hI HY
   go_wp2_with fail
   (with_reducible refine(km _).mono ?_);rintro e1 W1 ⟨rfl,hb1⟩
   have hE1:=hE.trans (hb1.mono hE.size)
   go_wp2_with fail
   go_ret;exact⟨rfl,hE1⟩
end Go.Proofs.YtibjkhepedfpiaaGreatDoor.LaA
namespace Go.Proofs.YtibjkhepedfpiaaGreatDoor.LaB
open Go Go.RowKit Q Mem Rg Ap St BiW CrB SeEq TlS TbM TbO TbP TbR TbU RtM RtN RtQ LaA
set_option maxRecDepth 100000
structure Opn where
 ask:Int
 at_:Int
 n:Int
 b:Nat
 text:ByteArray
def fewO (o:Opn):Prop:=o.text.size≤5000∧o.n≤5000∧ -5000≤o.n
instance (o:Opn):Decidable (fewO o):=by unfold fewO;infer_instance
def fewB (L:List Opn):Bool:=L.all (fun r=>decide (fewO r))&&decide (L.length≤30)
theorem few_no {L:List Opn} {k:Nat} {r:Opn} (h:L[k]? =some r) (hf: ¬fewO r):fewB L=false:=by
 unfold fewB
 have:L.all (fun r=>decide (fewO r))=false:=by
  rw[List.all_eq_false];exact⟨r,List.mem_of_getElem? h,by simpa using hf⟩
 rw[this,Bool.false_and]
theorem few_yes {L:List Opn} (h: ∀(j:Nat) (r:Opn),L[j]? =some r→fewO r):fewB L=decide (L.length≤30):=by
 unfold fewB
 have:L.all (fun r=>decide (fewO r))=true:=by
  rw[List.all_eq_true];intro r hr;obtain⟨j,hj,hj2⟩:=List.getElem_of_mem hr;exact decide_eq_true (h j r (by rw[List.getElem?_eq_getElem hj,hj2]))
 rw[this,Bool.true_and]
def bytesO (o:Opn):ByteArray:=if o.text.size=0 then madeD o.n o.b else o.text
theorem bytes_size (o:Opn) (h:fewO o):(bytesO o).size≤1099511627776:=by
 unfold bytesO
 split
 ·rw[(made_ok o.n o.b).2];unfold madeK;omega
 ·have:=h.1;omega
theorem ins_up {L:List Nat} (hs:L.Pairwise (· < ·)) {p:Nat} (hp:p∉L):(ins L (below L p) p).Pairwise (· < ·):=by
 have h1:=take_below hs p;have h2:=drop_below hs p;unfold ins;rw[List.pairwise_append,List.pairwise_cons];refine⟨hs.sublist (List.take_sublist _ _),⟨fun z hz=>?_,hs.sublist (List.drop_sublist _ _)⟩,fun y hy z hz=>?_⟩
 ·have:=h2 z hz
  rcases Nat.eq_or_lt_of_le this with e|e
  ·subst e;exact absurd (List.mem_of_mem_drop hz) hp
  ·exact e
 ·have hy':=h1 y hy
  rcases List.mem_cons.1 hz with rfl|hz
  ·exact hy'
  ·have:=h2 z hz;omega
theorem put_ok {S:Tb} (h:Ok S) (hl:S.st.length<100000) (at_:Int) (s:ByteArray):Ok (putS S at_ s)∧(putS S at_ s).st.length≤S.st.length+1:=by
 unfold putS
 split
 ·exact⟨h,by omega⟩
 ·rename_i hc
  have hE:putE S.R at_ s=0:=by
   by_cases e:putE S.R at_ s=0
   ·exact e
   ·exact absurd (Or.inl e) hc
  have hz:s.size≠0:=fun e=>hc (Or.inr e)
  have hp:0≤at_∧at_.toNat<191*S.R:=by
   unfold putE at hE
   split at hE
   ·cases hE
   ·omega
  by_cases hin:at_.toNat∈S.st
  ·simp only[hin,if_true]
   exact⟨⟨h.R,h.R0,h.st,h.up,h.lt⟩,by simp⟩
  ·simp only[hin,if_false]
   have hl2:(ins S.st (below S.st at_.toNat) at_.toNat).length=S.st.length+1:=ins_len _ _ _ (below_le _ _);refine⟨⟨h.R,h.R0,by show(ins _ _ _).length≤_;omega,ins_up h.up hin,fun z hz=>?_⟩,by show(ins _ _ _).length≤_;omega⟩;rcases(ins_mem _ _ _ _).1 hz with rfl|hz
   ·exact hp.2
   ·exact h.lt z hz
theorem par_ok {S:Tb} (h:Ok S) (n:Int) (s:ByteArray):Ok (parS S n s)∧(parS S n s).st=S.st∧(parS S n s).R=S.R:=by
 unfold parS
 split
 ·exact⟨h,rfl,rfl⟩
 ·exact⟨⟨h.R,h.R0,h.st,h.up,h.lt⟩,rfl,rfl⟩
theorem pad_ok {S:Tb} (h:Ok S) (n:Int):Ok (padS S n)∧(padS S n).st=S.st∧(padS S n).R=S.R:=by
 unfold padS
 split
 ·exact⟨h,rfl,rfl⟩
 ·exact⟨⟨h.R,h.R0,h.st,h.up,h.lt⟩,rfl,rfl⟩
theorem empty_ok {R:Nat} (h:R≤1024) (h0:0<R):Ok (emptyT R):=⟨h,h0,by simp[emptyT],List.Pairwise.nil,fun z hz=>(by cases hz)⟩
end Go.Proofs.YtibjkhepedfpiaaGreatDoor.LaB
namespace Go.Proofs.YtibjkhepedfpiaaGreatDoor.LaE
open Go Go.RowKit Q Mem Rg Ap ApG St BiW CrB Tab DgB DgC TlS TbM TbO TbP TbQ TbR TbS TbT TbU RtM LaA LaB
set_option maxRecDepth 100000
def exS (X:ByteArray):Tb:=padS (putS (emptyT 256) 0 X) 189
theorem atI_nat' (S:Tb) (q:Nat):atI S q=(decide (q<191*S.R)&&S.is q):=by
 unfold atI;by_cases h:q<191*S.R
 ·rw[if_pos (by omega),decide_eq_true h,Int.toNat_natCast];rfl
 ·rw[if_neg (by omega),decide_eq_false h];rfl
theorem ex_ok {X:ByteArray}:Ok (exS X):=(pad_ok (put_ok (empty_ok (by decide) (by decide)) (by decide) 0 X).1 189).1
end Go.Proofs.YtibjkhepedfpiaaGreatDoor.LaE
