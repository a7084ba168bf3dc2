import Derived.Test.YtibjkhepedfpiaaGreatDoorSgPkM
import Derived.Test.YtibjkhepedfpiaaGreatDoorSgPkR
namespace Go.Proofs.YtibjkhepedfpiaaGreatDoor.TbV
open Go Go.RowKit Q Mem Rg Ap St BiW BiG Ints CrB TlS TbM TbN TbQ GfP PoP RsP GfA PoA RsB MdA MdB MdC MdP MdE
set_option maxRecDepth 100000
def rowB (S:Tb) (r:Nat):List UInt8:=(List.range 255).map fun c=>S.b (c*S.R+r)
theorem rowB_at (S:Tb) (r c:Nat) (h:c<255):fa (rowB S r) c=S.b (c*S.R+r):=fa_map 255 _ c h
structure RowOf (S:Tb) (r:Nat) (cw:List UInt8):Prop where
 len:cw.length=255
 word: ∀j,j<64→hr cw (ex j)=0
 same: ∀c,c<255→S.is (c*S.R+r)=true→S.b (c*S.R+r)=fa cw c
theorem lost_mem (S:Tb) (r c:Nat):c∈lostL S r↔c<255∧S.is (c*S.R+r)=false:=by
 unfold lostL lostN;simp
theorem lost_nodup (S:Tb) (r:Nat):(lostL S r).Nodup:=(List.nodup_range).sublist List.filter_sublist
theorem RowOf.near {S:Tb} {r:Nat} {cw:List UInt8} (h:RowOf S r cw) (hl:(lostL S r).length≤64):Near (lostL S r) (rowB S r) cw:=by
 refine⟨⟨lost_nodup S r,fun n hn=>((lost_mem S r n).1 hn).1,hl⟩,by simp[rowB],h.len,h.word,fun n hn hm=>?_⟩;rw[rowB_at S r n hn];refine h.same n hn ?_
 cases hb:S.is (n*S.R+r)with
 |true=>rfl
 |false=>exact absurd ((lost_mem S r n).2 ⟨hn,hb⟩) hm
theorem RowOf.data {S:Tb} {r:Nat} {cw:List UInt8} (h:RowOf S r cw) (hk: ∀c,c<191→S.is (c*S.R+r)=true):(List.range 191).map (fun c=>S.b (c*S.R+r))=cw.take 191:=by
 refine List.ext_getElem (by rw[List.length_map,List.length_range,List.length_take,h.len];rfl) (fun n h1 h2=>?_);have hn:n<191:=by simpa using h1
 rw[List.getElem_map,List.getElem_range,List.getElem_take,h.same n (by omega) (hk n hn)];exact fa_in (List.getElem?_eq_getElem _)
end Go.Proofs.YtibjkhepedfpiaaGreatDoor.TbV
namespace Go.Proofs.YtibjkhepedfpiaaGreatDoor.TbW
open Go Go.RowKit Q Mem Rg Ap St BiW BiG Ints CrB TlS TbM TbN TbQ GfP RsP PoA MdA MdP TbV
set_option maxRecDepth 100000
theorem place_iff {R r k p:Nat} (hr:r<R):p=k*R+r↔p%R=r∧p/R=k:=by
 constructor
 ·rintro rfl
  rw[Nat.mul_comm k R];exact⟨by rw[Nat.mul_add_mod,Nat.mod_eq_of_lt hr],by rw[Nat.mul_add_div (by omega),Nat.div_eq_of_lt hr];omega⟩
 ·rintro⟨rfl,rfl⟩
  rw[Nat.mul_comm];exact(Nat.div_add_mod p R).symm
theorem place_div {R r c:Nat} (hr:r<R):(c*R+r)%R=r∧(c*R+r)/R=c:=(place_iff hr).1 rfl
end Go.Proofs.YtibjkhepedfpiaaGreatDoor.TbW
namespace Go.Proofs.YtibjkhepedfpiaaGreatDoor.LaG
open Go Go.RowKit Q Mem Rg Ap St Tab Ints FrA
set_option maxRecDepth 100000
end Go.Proofs.YtibjkhepedfpiaaGreatDoor.LaG
namespace Go.Proofs.YtibjkhepedfpiaaGreatDoor.LaH
open Go Go.RowKit Q Mem Rg Ap St DgC TbM TbO TbP FrA FrB LaA
def Chain:Nat→List (Nat×ByteArray)→Nat→Prop
 |a,[],b=>a=b
 |a,(p,d)::t,b=>p=a∧dgE d=0∧Chain (a+d.size) t b
theorem chain_le: ∀{L:List (Nat×ByteArray)} {a b:Nat},Chain a L b→a≤b
 |[],a,b,h=>Nat.le_of_eq h
 |(p,x)::t,a,b,⟨_,_,h3⟩=>by have:=chain_le h3;omega
theorem chain_in: ∀{L:List (Nat×ByteArray)} {a b:Nat},Chain a L b→ ∀x∈L,a≤x.1∧x.1+x.2.size≤b∧dgE x.2=0
 |[],a,b,h,x,hx=>by cases hx
 |(p,d)::t,a,b,⟨h1,h2,h3⟩,x,hx=>by
  have h4:=chain_le h3;rcases List.mem_cons.1 hx with rfl|hx
  ·exact⟨Nat.le_of_eq h1.symm,by subst h1;exact h4,h2⟩
  ·have:=chain_in h3 x hx
   exact⟨by omega,this.2⟩
def frK (R C K:Nat) (l:List Int) (k:Nat):Fr:=(List.range k).foldl (fun S i=>addS S (madeD (l.getD i 0) i)) (emptyF R C K)
structure FT (w:World) (B gf gr:Nat) (v:Value) (F:Fr) (gt g2:Nat) (u:Value) (T:Tb):Prop where
 f:FrIn w B gf gr v F
 t:TbIn w B gt g2 u T
 ap: ∀i,footF gf gr v i→ ¬foot gt g2 u i
section
variable {w w':World} {B gf gr gt g2:Nat} {v v' u u':Value} {F F':Fr} {T T':Tb}
theorem FT.below (h:FT w B gf gr v F gt g2 u T) (k:Below w.heap.size w w'):FT w' B gf gr v F gt g2 u T:=⟨h.f.below k,h.t.below k,h.ap⟩
theorem FT.ge (h:FT w B gf gr v F gt g2 u T): ∀i,(footF gf gr v i∨foot gt g2 u i)→B≤i∧i<w.heap.size:=fun i hi=>hi.elim (h.f.ge i) (h.t.ge i)
theorem FT.base {B':Nat} (h:FT w B gf gr v F gt g2 u T) (hB:B'≤B):FT w B' gf gr v F gt g2 u T:=
 ⟨⟨h.f.box,h.f.rows,ApG.own_base h.f.l hB,h.f.ne,h.f.nt,h.f.nr,Nat.le_trans hB h.f.bt,Nat.le_trans hB h.f.br⟩,
  ⟨h.t.box,h.t.rows,ApG.own_base h.t.st hB,h.t.ne,h.t.nt,h.t.nr,Nat.le_trans hB h.t.bt,Nat.le_trans hB h.t.br⟩,h.ap⟩
theorem FT.frame (h:FT w B gf gr v F gt g2 u T) (hf:FrIn w' B gf gr v' F') (hfar:far w v v') (k:Kept (footF gf gr v) w w'):FT w' B gf gr v' F' gt g2 u T:=by
 refine⟨hf,h.t.kept k (fun i hi hi2=>h.ap i hi2 hi),fun i hi ht=>?_⟩;rcases hi with e|e|e
 ·exact h.ap i (Or.inl e) ht
 ·exact h.ap i (Or.inr (Or.inl e)) ht
 ·rcases hfar with h1|⟨j,h1,h2⟩
  ·exact h.ap i (Or.inr (Or.inr (h1▸e))) ht
  ·rw[h1]at e
   injection e with e
   have:=(h.t.ge i ht).2;omega
theorem FT.table (h:FT w B gf gr v F gt g2 u T) (ht:TbIn w' B gt g2 u' T') (hfar:far w u u') (k:Kept (foot gt g2 u) w w'):FT w' B gf gr v F gt g2 u' T':=by
 refine⟨h.f.kept k (fun i hi=>h.ap i hi),ht,fun i hi ht2=>?_⟩;rcases ht2 with e|e|e
 ·exact h.ap i hi (Or.inl e)
 ·exact h.ap i hi (Or.inr (Or.inl e))
 ·rcases hfar with h1|⟨j,h1,h2⟩
  ·exact h.ap i hi (Or.inr (Or.inr (h1▸e)))
  ·rw[h1]at e
   injection e with e
   have:=(h.f.ge i hi).2;omega
end
end Go.Proofs.YtibjkhepedfpiaaGreatDoor.LaH
namespace Go.Proofs.YtibjkhepedfpiaaGreatDoor.LaI
open Go Go.RowKit Q Mem Rg Ap St CrB Tab Ints DgC TbM TbO TbP FrA FrB LaA LaG LaH
set_option maxRecDepth 100000
def frS (C K:Nat) (l:List Int):Fr:=frK 256 C K l l.length
end Go.Proofs.YtibjkhepedfpiaaGreatDoor.LaI
namespace Go.Proofs.YtibjkhepedfpiaaGreatDoor.LaP
open Go St BiH DgB DgC TlS TbM TbO TbP TbQ TbT TbU FrA FrB LaE LaH
theorem fs_prefix {s X:ByteArray} (h:dgE X=0) (hle:X.size≤s.size) (hx:s.extract 0 X.size=X):fsN s=X.size:=by
 have h20:=dg_size h
 have hp:pkE X=0:=by
  unfold dgE at h
  split at h
  ·rename_i h1;exact absurd h h1
  ·rename_i h1;simpa using h1
 have hl:(pkH X).length=X.size:=by
  unfold dgE at h;rw[if_neg (by simpa using hp)]at h
  split at h
  ·cases h
  ·split at h
   ·cases h
   ·omega
 have ha: ∀i,i<X.size→at0 s i=at0 X i:=fun i hi=>by
  rw[←hx];unfold at0;rw[ByteArray.data_extract,Array.getElem?_extract,if_pos (by have:s.size=s.data.size:=rfl;omega),Nat.zero_add]
 have hk:pkE s=0∧(pkH s).length=(pkH X).length:=by
  have hp2:=hp;have hX0:X.size≠0:=by omega
  have hs0:s.size≠0:=by omega
  unfold pkE at hp;rw[if_neg hX0]at hp;by_cases h4:at0 X 0/16=4
  ·rw[if_pos h4]at hp
   have e4:at0 s 0/16=4:=by rw[ha 0 (by omega)];exact h4
   have hd:hd4 s=hd4 X:=by unfold hd4;rw[ha 0 (by omega),ha 2 (by omega),ha 3 (by omega),ha 9 (by omega)]
   have hs:pkE s=0:=by
    unfold pkE;rw[if_neg hs0,if_pos e4,if_neg (by omega),hd]
    split at hp
    ·cases hp
    ·exact hp
   refine⟨hs,?_⟩;unfold pkH;rw[if_pos hs,if_pos hp2,if_pos e4,if_pos h4,hd]
  ·rw[if_neg h4]at hp
   by_cases h6:at0 X 0/16=6
   ·rw[if_pos h6]at hp
    have e6:at0 s 0/16=6:=by rw[ha 0 (by omega)];exact h6
    split at hp
    ·cases hp
    rename_i h40;have hd:hd6 s=hd6 X:=by unfold hd6;rw[ha 4 (by omega),ha 5 (by omega),ha 6 (by omega)]
    have hs:pkE s=0:=by
     unfold pkE;rw[if_neg hs0,if_neg (by omega),if_pos e6,if_neg (by omega),hd];exact hp
    refine⟨hs,?_⟩;unfold pkH;rw[if_pos hs,if_pos hp2,if_neg (by omega),if_neg h4,hd]
   ·rw[if_neg h6]at hp;cases hp
 unfold fsN;rw[hk.2,hl,Int.toNat_natCast,hx,if_pos ⟨hk.1,by omega,h⟩]
theorem fs_none {s:ByteArray} (h:s.size=0∨at0 s 0=0):fsN s=0:=by
 have hp:pkE s≠0:=by
  unfold pkE;rcases h with h|h
  ·rw[if_pos h];decide
  ·split
   ·decide
   ·rw[h,if_neg (by decide),if_neg (by decide)];decide
 unfold fsN;rw[if_neg (fun e=>hp e.1)]
theorem kn_ge (S:Tb): ∀(k f p:Nat),k≤f→(∀i,i<k→atI S ((p+i:Nat):Int)=true)→k≤kn S p f
 |0,_,_,_,_=>Nat.zero_le _
 |k+1,0,p,h,_=>by omega
 |k+1,f+1,p,h,h1=>by
  have h0:=h1 0 (by omega);rw[Nat.add_zero]at h0;rw[kn,if_pos h0];have:=kn_ge S k f (p+1) (by omega) (fun i hi=>by rw[show p+1+i=p+(i+1) by omega];exact h1 (i+1) (by omega));omega
theorem sb_bl (X:ByteArray) (i:Nat) (h:i<X.size):(bl X)[i]? =some (sb X i):=by
 unfold sb bl;have hd:i<X.data.size:=h;rw[Array.getElem?_toList,Array.getElem?_eq_getElem hd];rfl
theorem bytes_are {S:Tb} {p:Nat} {X:ByteArray} (h: ∀i,i<X.size→S.b (p+i)=sb X i):bytesL S p X.size=bl X:=by
 apply List.ext_getElem (by rw[bytesL_len,bl_len]);intro i h1 h2;rw[bytesL_len]at h1;have h3:=sb_bl X i h1;rw[List.getElem?_eq_getElem h2]at h3;rw[Option.some.inj h3];simp only[bytesL,List.getElem_map,List.getElem_range];exact h i h1
theorem dN_yes {S:Tb} {p:Nat} {X:ByteArray} (hd:dgE X=0) (hR:p+X.size≤191*S.R) (hi: ∀i,i<X.size→S.is (p+i)=true) (hb: ∀i,i<X.size→S.b (p+i)=sb X i):dN S p=X.size:=by
 have h20:=dg_size hd;have hk:X.size≤kn S p 4080:=kn_ge S X.size 4080 p h20.2 (fun i h=>by rw[atI_nat',decide_eq_true (by omega),hi i h];rfl);refine fs_prefix hd (by rw[kn_size];exact hk) (bl_inj ?_);rw[ext_bl,List.drop_zero,Nat.sub_zero];unfold knS;rw[bl_str,←bytes_are hb];unfold bytesL;rw[←List.map_take,List.take_range,Nat.min_eq_left hk]
theorem dN_no {S:Tb} {p:Nat} (h:S.is p=false∨S.b p=0):dN S p=0:=by
 refine fs_none ?_;by_cases hk:kn S p 4080=0
 ·exact Or.inl (by rw[kn_size];exact hk)
 ·refine Or.inr ?_
  have h1:S.is p=true:=by
   rw[kn]at hk;by_cases ha:atI S p=true
   ·rw[atI_nat']at ha
    simp only[Bool.and_eq_true]at ha;exact ha.2
   ·rw[if_neg ha]at hk;exact absurd rfl hk
  have h2:S.b p=0:=by
   rcases h with h|h
   ·rw[h1]at h;cases h
   ·exact h
  unfold knS at0
  have h3:(bytesL S p (kn S p 4080))[0]? =some (S.b p):=by
   unfold bytesL;rw[List.getElem?_map,List.getElem?_range (by omega)];rfl
  have h4:(str (bytesL S p (kn S p 4080))).data[0]? =some (S.b p):=by
   rw[←h3];simp[str]
  rw[h4,h2];rfl
theorem below_count {L:List Nat} {p q:Nat} (hs:L.Pairwise (· < ·)) (hq:q∈L) (hp:p<q) (hmin: ∀z∈L,p<z→q≤z):(L.drop (below L (p+1))).head? =some q:=by
 induction L with
 |nil=>cases hq
 |cons x t ih=>
  have ht:=List.pairwise_cons.1 hs;by_cases hx:x<p+1
  ·have:below (x::t) (p+1)=below t (p+1)+1:=by unfold below;rw[List.countP_cons];simp[hx]
   rw[this,List.drop_succ_cons];refine ih ht.2 ?_ (fun z hz h=>hmin z (by simp[hz]) h);rcases List.mem_cons.1 hq with e|e
   ·omega
   ·exact e
  ·have h0:t.countP (fun z=>decide (z<p+1))=0:=by
    rw[List.countP_eq_zero];intro y hy;have:=ht.1 y hy;simp;omega
   have:below (x::t) (p+1)=0:=by unfold below;rw[List.countP_cons,h0];simp;omega
   rw[this,List.drop_zero,List.head?_cons];have h1:=hmin x (by simp) (by omega);rcases List.mem_cons.1 hq with e|e
   ·rw[e]
   ·have:=ht.1 q e;omega
theorem nxt_some {S:Tb} {p q:Nat} (hs:S.st.Pairwise (· < ·)) (hq:q∈S.st) (hp:p<q) (hmin: ∀z∈S.st,p<z→q≤z):nxt S p=some q:=below_count hs hq hp hmin
theorem nxt_none {S:Tb} {p:Nat} (h: ∀z∈S.st,z≤p):nxt S p=none:=by
 unfold nxt
 have h1:below S.st (p+1)=S.st.length:=by
  unfold below;rw[List.countP_eq_length];intro z hz;have:=h z hz;simp;omega
 rw[h1,List.drop_length];rfl
def told (g:List Int):Nat→List (Nat×ByteArray)→List (Nat×ByteArray)
 |_,[]=>[]
 |k,x::t=>if(k:Int)∈g then told g (k+1) t else x::told g (k+1) t
structure Has (T:Tb) (g:List Int) (k:Nat) (L:List (Nat×ByteArray)) (u:Nat):Prop where
 ok:Ok T
 ul:u≤191*T.R
 is: ∀x∈told g k L,∀i,i<x.2.size→T.is (x.1+i)=true∧T.b (x.1+i)=sb x.2 i
 no: ∀j x,L[j]? =some x→((k+j:Nat):Int)∈g→T.is x.1=false
 en:T.is u=false∨T.b u=0
 st: ∀j x,L[j]? =some x→((k+j:Nat):Int)∉g→x.1∈T.st
theorem Has.tail {T:Tb} {g:List Int} {k u:Nat} {y:Nat×ByteArray} {t:List (Nat×ByteArray)} (h:Has T g k (y::t) u):Has T g (k+1) t u:=
 ⟨h.ok,h.ul,fun x hx=>h.is x (by rw[told];split;exact hx;exact List.mem_cons_of_mem _ hx),fun j x hj hg=>h.no (j+1) x hj (by rw[show k+(j+1)=k+1+j by omega];exact hg),h.en,
  fun j x hj hg=>h.st (j+1) x hj (by rw[show k+(j+1)=k+1+j by omega];exact hg)⟩
def Only (T:Tb) (g:List Int) (k:Nat) (L:List (Nat×ByteArray)) (b:Nat):Prop:= ∀z∈T.st,b<z→ ∃j x,L[j]? =some x∧((k+j:Nat):Int)∉g∧z=x.1
theorem walk {T:Tb} {g:List Int} {u:Nat}: ∀(L:List (Nat×ByteArray)) (k a:Nat),Chain a L u→Has T g k L u→
 (∀(_:Only T g k L a),outAt T a=(told g k L).map (fun x=>(x.1,x.2.size)))∧(∀b,b<a→dN T b=0→Only T g k L b→outAt T b=(told g k L).map (fun x=>(x.1,x.2.size)))
 |[],k,a,hc,h=>by
  obtain rfl:a=u:=hc;have hd:=dN_no h.en;refine⟨fun ho=>outAt_end h.ul (by rw[hd];decide) (nxt_none fun z hz=>?_),fun b hb hdb ho=>outAt_end (by have:=h.ul;omega) (by rw[hdb];decide) (nxt_none fun z hz=>?_)⟩
  ·rcases Nat.lt_or_ge a z with h1|h1
   ·obtain⟨j,x,hj,_⟩:=ho z hz h1
    simp at hj
   ·exact h1
  ·rcases Nat.lt_or_ge b z with h1|h1
   ·obtain⟨j,x,hj,_⟩:=ho z hz h1
    simp at hj
   ·exact h1
 |(q,d)::t,k,a,hc,h=>by
  obtain⟨hqa,hd,hct⟩:=hc;subst hqa;have h20:=dg_size hd;obtain⟨ihM,ihN⟩:=walk t (k+1) (q+d.size) hct h.tail;have hcle:=chain_le hct;have hu:=h.ul
  have main:Only T g k ((q,d)::t) q→outAt T q=(told g k ((q,d)::t)).map (fun x=>(x.1,x.2.size)):=fun ho=>by
   have ho2:Only T g (k+1) t q:=fun z hz hqz=>by
    obtain⟨j,x,hj,hg,rfl⟩:=ho z hz hqz
    cases j with
    |zero=>simp at hj;subst hj;exact absurd hqz (Nat.lt_irrefl _)
    |succ j=>exact⟨j,x,hj,by rw[show k+1+j=k+(j+1) by omega];exact hg,rfl⟩
   by_cases hg:(k:Int)∈g
   ·have hn:dN T q=0:=dN_no (Or.inl (h.no 0 (q,d) rfl (by rw[Nat.add_zero];exact hg)))
    rw[told,if_pos hg];exact ihN q (by omega) hn ho2
   ·have hy:dN T q=d.size:=dN_yes hd (by omega) (fun i hi=>(h.is (q,d) (by rw[told,if_neg hg];exact List.mem_cons_self ..) i hi).1) (fun i hi=>(h.is (q,d) (by rw[told,if_neg hg];exact List.mem_cons_self ..) i hi).2)
    rw[outAt_yes h.ok (by omega) (by rw[hy];omega),hy,told,if_neg hg,List.map_cons]
    congr 1
    exact ihM (fun z hz hqz=>ho2 z hz (by omega))
  refine⟨main,fun b hb hdb ho=>?_⟩;by_cases hg:(k:Int)∈g
  ·rw[told,if_pos hg]
   refine ihN b (by omega) hdb (fun z hz hbz=>?_);obtain⟨j,x,hj,hgj,rfl⟩:=ho z hz hbz
   cases j with
   |zero=>exact absurd (by rw[Nat.add_zero];exact hg) hgj
   |succ j=>exact⟨j,x,hj,by rw[show k+1+j=k+(j+1) by omega];exact hgj,rfl⟩
  ·have hq:q∈T.st:=h.st 0 (q,d) rfl (by rw[Nat.add_zero];exact hg)
   have hn:nxt T b=some q:=nxt_some h.ok.up hq hb (fun z hz hbz=>by
    obtain⟨j,x,hj,_,rfl⟩:=ho z hz hbz
    cases j with
    |zero=>simp at hj;subst hj;exact Nat.le_refl _
    |succ j=>
     have:=(chain_in hct x (List.mem_of_getElem? hj)).1;omega)
   rw[outAt_next h.ok (by omega) (by rw[hdb];decide) hn];exact main (fun z hz hqz=>ho z hz (by omega))
theorem ins_mem {L:List Nat} {i x:Nat} {z:Nat}:z∈ins L i x↔z=x∨z∈L:=by
 unfold ins;rw[List.mem_append,List.mem_cons];constructor
 ·rintro(h|h|h)
  ·exact Or.inr (List.mem_of_mem_take h)
  ·exact Or.inl h
  ·exact Or.inr (List.mem_of_mem_drop h)
 ·rintro(h|h)
  ·exact Or.inr (Or.inl h)
  ·rw[←List.take_append_drop i L,List.mem_append]at h
   rcases h with h|h
   ·exact Or.inl h
   ·exact Or.inr (Or.inr h)
end Go.Proofs.YtibjkhepedfpiaaGreatDoor.LaP
namespace Go.Proofs.YtibjkhepedfpiaaGreatDoor.LaQ
open Go St DgC TlS TbM TbO TbP TbQ GfP PoP RsP PoA MdP TbV TbW FrA FrB LaH LaI LaP
structure LayF (F:Fr):Prop where
 at_: ∀x∈F.L,∀i,i<x.2.size→ ∀r c,r<F.R→c*F.R+r=x.1+i→F.D r c=sb x.2 i
 no: ∀r c,r<F.R→F.used≤c*F.R+r→F.D r c=0
 old:F.old=false→ ∀r c,F.D r c=0
def rowC (F:Fr) (r:Nat):List UInt8:=(List.range 255).map ((FrC.freshS F).D r)
theorem rowC_at (F:Fr) (r c:Nat) (hc:c<255):fa (rowC F r) c=(FrC.freshS F).D r c:=fa_map 255 _ c hc
set_option maxRecDepth 100000 in
theorem rowC_word {F:Fr} (h:LayF F) (r:Nat) (hrr:r<F.R) (j:Nat) (hj:j<64):hr (rowC F r) (ex j)=0:=by
 cases ho:F.old with
 |false=>
  rw[hr_sum];refine sm_zero (fun i hi=>?_);have hi:i<255:=by simpa [rowC]using hi
  have:(rowC F r).getD i 0=0:=by
   have h1:=rowC_at F r i hi;unfold fa at h1;rw[h1,show FrC.freshS F=F by unfold FrC.freshS;rw[ho];rfl];exact h.old ho r i
  rw[this,zero_gm]
 |true=>
  have he:rowC F r=FrC.rowL F r++enc (FrC.rowL F r):=by
   refine List.ext_getElem (by rw[List.length_append,enc_len];simp[rowC,FrC.rowL]) (fun n h1 h2=>?_);have hn:n<255:=by simpa [rowC]using h1
   have hf:FrC.freshS F={FrC.frI F F.R with old:=false}:=by unfold FrC.freshS;rw[ho,if_pos rfl]
   have hl:(FrC.rowL F r).length=191:=by simp[FrC.rowL]
   rw[show(rowC F r)[n]=(FrC.freshS F).D r n by simp[rowC],hf];show(if r<F.R∧191≤n then(enc (FrC.rowL F r)).getD (n-191) 0 else F.D r n)=_;by_cases hn2:n<191
   ·rw[if_neg (by omega),List.getElem_append_left (by omega)]
    simp[FrC.rowL]
   ·rw[if_pos ⟨hrr,by omega⟩,List.getElem_append_right (by omega),List.getD_eq_getElem?_getD,List.getElem?_eq_getElem (by rw[enc_len];omega),Option.getD_some]
    simp only[hl]
  rw[he];exact word_ok _ j hj
def Dp (F:Fr) (q:Nat):UInt8:=(FrC.freshS F).D (q%256) (q/256)
theorem Dp_at (F:Fr) (r c:Nat) (hr:r<256):Dp F (c*256+r)=(FrC.freshS F).D r c:=by
 obtain⟨h1,h2⟩:=place_div (c:=c) hr;unfold Dp;rw[h1,h2]
structure Kn (F:Fr) (T:Tb) (A B:Nat→Prop):Prop where
 R:T.R=256
 is: ∀q,T.is q=true↔A q
 b: ∀q,A q→T.b q=Dp F q
 z: ∀q,¬A q→T.b q=0
 st: ∀q,q∈T.st↔B q
section
variable {F:Fr} {T U:Tb} {A B A' B':Nat→Prop}
theorem Kn.congr (h:Kn F T A B) (hA: ∀q,A q↔A' q) (hB: ∀q,B q↔B' q):Kn F T A' B':=
 ⟨h.R,fun q=>(h.is q).trans (hA q),fun q hq=>h.b q ((hA q).2 hq),fun q hq=>h.z q (fun e=>hq ((hA q).1 e)),fun q=>(h.st q).trans (hB q)⟩
theorem Kn.row (h:Kn F T A B) (hl:LayF F) (hR:F.R=256) (r:Nat) (hr:r<T.R):RowOf T r (rowC F r):=by
 rw[h.R]at hr;refine⟨by simp[rowC],fun j hj=>rowC_word hl r (by rw[hR];exact hr) j hj,fun c hc hi=>?_⟩;rw[h.R]at hi ⊢;rw[h.b _ ((h.is _).1 hi),Dp_at F r c hr,rowC_at F r c hc]
end
end Go.Proofs.YtibjkhepedfpiaaGreatDoor.LaQ
namespace Go.Proofs.YtibjkhepedfpiaaGreatDoor.LaR
open Go St BiH DgB DgC TlS TbM TbO TbP TbQ TbT TbU PoA TbV TbW FrA FrB LaE LaH LaI LaP LaQ
def Whole (S:Tb) (x:Nat×ByteArray):Prop:= ∀i,i<x.2.size→S.is (x.1+i)=true
section
variable {F:Fr} {S:Tb}
end
end Go.Proofs.YtibjkhepedfpiaaGreatDoor.LaR
