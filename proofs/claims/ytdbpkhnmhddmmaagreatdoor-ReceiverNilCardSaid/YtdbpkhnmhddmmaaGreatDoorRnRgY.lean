import Derived.Test.YtdbpkhnmhddmmaaGreatDoorRnPkA
namespace Go.Proofs.YtdbpkhnmhddmmaaGreatDoor.RgY
open Go Go.RowKit Mem Q Rg RgA RgB RgX
def reach (ops:Array Oper):Nat→Nat→Nat→Bool
 |0,t,i=>Region.waitsFor .any ops t i
 |k+1,t,i=>Region.waitsFor .any ops t i||((List.range ops.size).any fun q=>Region.waitsFor .any ops t q&&reach ops k q i)
theorem reach_listed {ops:Array Oper} {hd:Nat→Bool} {listed:Array Bool} (inv:HInv .any ops hd listed): ∀(k t i:Nat),listed.getD t false=true→t<ops.size→reach ops k t i=true→listed.getD i false=true
 |0,t,i,ht,hs,h=>by
  obtain⟨o,ho,e,he,hb,heq⟩:=Region.waitsFor_spec h;exact heq▸inv.closed t o ho ht e he hb
 |k+1,t,i,ht,hs,h=>by
  simp only[reach,Bool.or_eq_true,List.any_eq_true,List.mem_range,Bool.and_eq_true]at h;rcases h with h|⟨q,hq,hqw,hr⟩
  ·exact reach_listed inv 0 t i ht hs h
  ·exact reach_listed inv k q i (reach_listed inv 0 t q ht hs hqw) hq hr
theorem reach_out {ops:Array Oper} {q:Nat} (h:ops.size≤q): ∀(k i:Nat),reach ops k q i=false
 |0,i=>by
  cases hw:Region.waitsFor .any ops q i with
  |false=>exact hw
  |true=>
   obtain⟨o,ho,_⟩:=Region.waitsFor_spec hw;rw[Array.getElem?_eq_none h]at ho;cases ho
 |k+1,i=>by
  have h0: ∀i,Region.waitsFor .any ops q i=false:=fun i=>reach_out h 0 i;simp only[reach,h0,Bool.false_or,Bool.false_and];rw[List.any_eq_false];exact fun x _=>Bool.false_ne_true
def headBY (ops:Array Oper) (n x:Nat):Bool:=
 Region.noSelect ops&&decide (x<n)&&decide (n≤ops.size)&&
 ((List.range ops.size).all fun t=>decide (t<n)||((List.range n).all fun i=>(i==x)||(Region.waitsFor .any ops t i||((List.range ops.size).any fun s=>decide (n≤s)&&Region.waitsFor .any ops t s)||((List.range n).any fun q=>Region.waitsFor .any ops t q&&reach ops ops.size q i))))&&
 (match stepC .any ops x 0 (Array.replicate ops.size false)with
 |some l1=>(Region.ready .any ops l1).contains x&&Region.free .any ops l1 x&&(match stepC .any ops (n-x-1) (x+1) (l1.setIfInBounds x true)with
  |some l2=>(l2==RgA.mark n (ops.size-n))&&(Region.ready .any ops l2).all (fun j=> !decide (j<n))
  |none=>false)
 |none=>false)
theorem waitsY {ops:Array Oper} {n x:Nat}
 (h:((List.range ops.size).all fun t=>decide (t<n)||((List.range n).all fun i=>(i==x)||(Region.waitsFor .any ops t i||((List.range ops.size).any fun s=>decide (n≤s)&&Region.waitsFor .any ops t s)||((List.range n).any fun q=>Region.waitsFor .any ops t q&&reach ops ops.size q i))))=true)
 (listed:Array Bool) (inv:HInv .any ops (fun j=>decide (j<n)) listed) (i:Nat) (hi:decide (i<n)=true) (hix:i≠x) (hun:listed.getD i true=false) (j:Nat) (hj:j∈Region.ready .any ops listed):decide (j<n)=true:=by
 rw[decide_eq_true_eq]at hi ⊢;rcases Nat.lt_or_ge j n with hjn|hjn
 ·exact hjn
 ·exfalso
  obtain⟨hju,oj,hoj,hall⟩:=mem_ready.1 hj;have hjs:j<ops.size:=(Array.getElem?_eq_some_iff.1 hoj).1;have h1:=List.all_eq_true.1 h j (by simpa using hjs);rw[decide_eq_false (by omega),Bool.false_or]at h1;have h2:=List.all_eq_true.1 h1 i (by simpa using hi)
  have hw: ∀s,Region.waitsFor .any ops j s=true→listed.getD s false=true:=fun s hs=>by
   obtain⟨o',ho',e,he,hb,heq⟩:=Region.waitsFor_spec hs;obtain rfl:oj=o':=by rw[hoj]at ho';injection ho'
   have:=hall e he hb
   rwa [heq]at this
  simp only[Bool.or_eq_true,beq_iff_eq,List.any_eq_true,List.mem_range,Bool.and_eq_true,decide_eq_true_eq]at h2;rcases h2 with h2|(h2|⟨s,hs,hsh,hsw⟩)|⟨q,hq,hqw,hqi⟩
  ·exact hix h2
  ·have:=hw i h2
   rw[getD_both hun]at this;cases this
  ·have h5:=inv.tail s (decide_eq_false (by omega)) hs
   have:=hw s hsw;rw[getD_both h5]at this;cases this
  ·have hql:=hw q hqw
   have hqs:q<ops.size:=by
    rcases Nat.lt_or_ge q ops.size with h|h
    ·exact h
    ·obtain⟨oq,hoq,_⟩:=Region.waitsFor_spec (show Region.waitsFor .any ops q q=true from by exact absurd hqi (by rw[reach_out h];exact Bool.false_ne_true))
     rw[Array.getElem?_eq_none h]at hoq;cases hoq
   have:=reach_listed inv ops.size q i hql hqs hqi;rw[getD_both hun]at this;cases this
theorem region_y {P:Program} {id:Nat} {Q:Exit→Act→World→Prop} {a:Act} {w:World} {l:List Oper} (sp:List (Nat×Sp)) (n x g:Nat) (hg:l.length=n+g) (hm:P.follows .mixedOrders=true) (hB:headBY l.toArray n x=true) (hsn:sp.all (fun s=>decide (s.1<n)&&(s.1 !=x))=true)
 (hinh: ∀i s,sp.lookup i=some s→ ∃v,s.is v) (hmono: ∀i s,sp.lookup i=some s→ ∀v w w',s.post v w→Le w w'→s.post v w') (hQ: ∀c (d:Option Tmp) (v:Value) (a:Act) w,Q (.panic c) (a.put d v) w→Q (.panic c) a w)
 (h: ∀σ:Nat→Value,(∀i s,sp.lookup i=some s→s.is (σ i))→wpN P l.toArray (fun w'=> ∃p:Ext,w'=ext w p) sp σ (fun a'=> ∃o v,l[x]? =some o∧Yields P l.toArray o v a'∧plain o.op=true∧wpN P l.toArray (fun w'=> ∃p:Ext,w'=ext w p) sp σ (fun a''=> ∀w',(∃p:Ext,w'=ext w p)→(∀i s,sp.lookup i=some s→s.post (σ i) w')→wpAny P .any l.toArray Q g (RgA.mark n g) a'' w') ((l.take n).drop (x+1)) (x+1) (a'.put o.dst v)) (l.take x) 0 a):
 (Code.region id l.toArray true).wp P Q a w:=by
 have hlk: ∀i s,sp.lookup i=some s→i<n∧i≠x:=by
  clear hinh hmono h
  induction sp with
  |nil=>intro i s h;cases h
  |cons y t ih=>
   simp only[List.all_cons,Bool.and_eq_true,decide_eq_true_eq,bne_iff_ne,ne_eq]at hsn;intro i s h;rw[List.lookup_cons]at h
   split at h
   ·rename_i e;have:i=y.1:=by simpa using e
    rw[this];exact hsn.1
   ·exact ih (by simpa using hsn.2) i s h
 have hxn:sp.lookup x=none:=by
  cases hx:sp.lookup x with
  |none=>rfl
  |some s=>exact absurd rfl (hlk x s hx).2
 simp only[headBY,Bool.and_eq_true,decide_eq_true_eq]at hB;obtain⟨⟨⟨⟨hsel,hxlt⟩,hns⟩,hwt⟩,hst⟩:=hB;have hns':n≤l.length:=by simpa using hns
 have htl:(l.take x).length=x:=by simp;omega
 have htk:((l.take n).drop (x+1)).length=n-x-1:=by simp;omega
 have hsz:l.toArray.size=l.length:=by simp
 have hgs:l.toArray.size-n=g:=by rw[hsz];omega
 split at hst
 ·rename_i l1 hl1
  simp only[Bool.and_eq_true]at hst;obtain⟨⟨hr,hf⟩,hst⟩:=hst
  split at hst
  ·rename_i l2 hl2
   simp only[Bool.and_eq_true,beq_iff_eq]at hst;obtain⟨hmark,hready⟩:=hst;have hr':x∈Region.ready .any l.toArray l1:=by simpa using hr
   have inv0:HInv .any l.toArray (fun j=>decide (j<n)) (Array.replicate l.toArray.size false):=
    ⟨by simp,fun j oj _ hl=>(by rw[getD_replicate_false]at hl;cases hl),fun t _ ht=>getD_in (by simpa using ht) (getD_replicate_false _ _)⟩
   have hch: ∀i,∃v,∀s,sp.lookup i=some s→s.is v:=fun i=>by
    cases hi:sp.lookup i with
    |none=>exact⟨undef,fun s h=>by cases h⟩
    |some s=>obtain⟨v,hv⟩:=hinh i s hi;exact⟨v,fun s' h'=>by injection h' with h';subst h';exact hv⟩
   obtain⟨σ0,hσ0⟩:=Classical.axiomOfChoice hch;refine wp_region_any hm ?_
   have:=any_of_headX (P:=P) (ops:=l.toArray) (C:=fun w'=>Le w w') (sp:=sp) (hd:=fun j=>decide (j<n)) (x:=x) (g:=g) (Q':=Q)
    (L:=fun σ listed' a'=>listed'=l2∧ ∀w',Le w w'→(∀i s,sp.lookup i=some s→s.post (σ i) w')→wpAny P .any l.toArray Q g (RgA.mark n g) a' w')
    up_C hsel hQ hxn hmono (fun σ listed a' w' hw' hgd hp hL=>by
     obtain⟨rfl,hk⟩:=hL
     have:=hk w' hw' (fun i s hi=>hp i s hi (by
      rw[hmark];exact mark_lt (hlk i s hi).1))
     rw[hmark,hgs];exact this) n (Array.replicate l.toArray.size false) a {w with drawn:=w.drawn+1} σ0 (le_of ((Below.refl _ _).drew)) (fun i s hi=>hσ0 i s hi) (fun i s hi hl=>by rw[getD_replicate_false]at hl;cases hl) (fun σ hσ _=>by
     have hdone: ∀(listed':Array Bool) (a':Act),(listed'=l2∧ ∀w',Le w w'→(∀i s,sp.lookup i=some s→s.post (σ i) w')→wpAny P .any l.toArray Q g (RgA.mark n g) a' w')→ ∀j∈Region.ready .any l.toArray listed',decide (j<n)=false:=fun listed' a' hL j hj=>by
      obtain⟨rfl,_⟩:=hL;simpa using List.all_eq_true.1 hready j hj
     have key:=headX_chunk (P:=P) (ops:=l.toArray) (C:=fun w'=>Le w w') (sp:=sp) (σ:=σ) (hd:=fun j=>decide (j<n)) (x:=x) (L:=fun listed' a'=>listed'=l2∧ ∀w',Le w w'→(∀i s,sp.lookup i=some s→s.post (σ i) w')→wpAny P .any l.toArray Q g (RgA.mark n g) a' w') hsel (waitsY hwt) hdone (n-x) (l.take x) 0 _ l1 a
      (fun j hj=>by
       have hj':j<x:=by rw[htl]at hj;exact hj
       simp[hj'])
      (fun j hj=>by
       have hj':j<x:=by rw[htl]at hj;exact hj
       exact⟨by simp;omega,by omega⟩) inv0 (by rw[htl];exact hl1) ?_
     ·rw[htl,show x+(n-x)=n by omega]at key
      exact key
     ·refine wpN_mono (fun a' hQ1 inv1=>?_) _ _ _ (h σ hσ)
      obtain⟨o,v,ho,hy,hpl,hrest⟩:=hQ1;have ho':l.toArray[x]? =some o:=by simpa using ho
      rw[show n-x=(n-x-1)+1 by omega];refine headX_first ho' (Region.noSelect_spec hsel) (waitsY hwt) (by simp;omega) hdone (n-x-1) l1 a' inv1 (Region.free_spec ho' hf) hr' ?_ (fun _=>hy) ?_
      ·unfold NY
       rw[hxn];rcases hy with⟨y1,y2⟩|⟨y1,y2⟩
       ·exact Or.inl ⟨y1,hpl,fun w' _=>by unfold Oper.quietAt;rw[y2];exact⟨rfl,rfl⟩⟩
       ·exact Or.inr ⟨y1,y2⟩
      ·have key2:=headX_chunk (P:=P) (ops:=l.toArray) (C:=fun w'=>Le w w') (sp:=sp) (σ:=σ) (hd:=fun j=>decide (j<n)) (x:=x) (L:=fun listed' a'=>listed'=l2∧ ∀w',Le w w'→(∀i s,sp.lookup i=some s→s.post (σ i) w')→wpAny P .any l.toArray Q g (RgA.mark n g) a' w') hsel (waitsY hwt) hdone 0 ((l.take n).drop (x+1)) (x+1) (l1.setIfInBounds x true) l2 (a'.put o.dst v)
        (fun j hj=>by
         have hj':j<n-x-1:=by rw[htk]at hj;exact hj
         rw[List.getElem?_drop,List.getElem?_take,if_pos (by omega)];simp)
        (fun j hj=>by
         have hj':j<n-x-1:=by rw[htk]at hj;exact hj
         exact⟨by simp;omega,by omega⟩) (inv1.set hr' (by simp;omega)) (by rw[htk];exact hl2) (wpN_mono (fun a'' hQ' _=>⟨rfl,hQ'⟩) _ _ _ hrest)
       rw[htk]at key2;exact key2)
   rw[show n+g=l.toArray.size by rw[hsz];omega]at this;exact this
  ·cases hst
 ·cases hst
end Go.Proofs.YtdbpkhnmhddmmaaGreatDoor.RgY
