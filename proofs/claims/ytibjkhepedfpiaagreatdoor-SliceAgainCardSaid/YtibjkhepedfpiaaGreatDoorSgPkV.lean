import Derived.Shelf.Slices.SearchI
import Derived.Shelf.Slices.Empties
import Derived.Shelf.Spec.SlicesInsert
import Derived.Shelf.Spec.SlicesInsertGrow
import Derived.Test.YtibjkhepedfpiaaGreatDoorSgApC
import Derived.Test.YtibjkhepedfpiaaGreatDoorSgTab
import Derived.Test.YtibjkhepedfpiaaGreatDoorSgPkD
namespace Go.Proofs.YtibjkhepedfpiaaGreatDoor.TlS
open Go Go.Shelf Go.RowKit Q Mem Ap ApG
def lays25_ren:Ren:=⟨fun|25=>174|31=>182|32=>183|37=>188|n=>n,fun|0=>0|3=>3|4=>4|22=>41|40=>199|n=>n,fun|n=>n⟩
theorem lays25:Lays2.n25 Tryz.prog lays25_ren:={
 mixed:=by kernel_rfl
 f25:=Tryz.func174.trans (congrArg some (by kernel_rfl))
 f31:=Tryz.func182.trans (congrArg some (by kernel_rfl))
 f32:=Tryz.func183.trans (congrArg some (by kernel_rfl))
 f37:=Tryz.func188.trans (congrArg some (by kernel_rfl))
 t0:=Tryz.underlying0
 a0:=Tryz.isAgg0
 z0:=Tryz.sizeOf0
 v0:=Tryz.zeroValue0
 t3:=Tryz.underlying3
 a3:=Tryz.isAgg3
 z3:=Tryz.sizeOf3
 v3:=Tryz.zeroValue3
 t4:=Tryz.underlying4
 a4:=Tryz.isAgg4
 z4:=Tryz.sizeOf4
 v4:=Tryz.zeroValue4
 t22:=Tryz.underlying41
 a22:=Tryz.isAgg41
 z22:=Tryz.sizeOf41
 v22:=Tryz.zeroValue41
 t40:=Tryz.underlying199
 a40:=Tryz.isAgg199
 z40:=Tryz.sizeOf199
 v40:=Tryz.zeroValue199}
def lays21_ren:Ren:=⟨fun|21=>175|27=>184|28=>185|35=>189|39=>191|n=>n,fun|0=>0|3=>3|4=>4|22=>41|n=>n,fun|n=>n⟩
theorem lays21:Lays2.n21 Tryz.prog lays21_ren:={
 mixed:=by kernel_rfl
 f21:=Tryz.func175.trans (congrArg some (by kernel_rfl))
 f27:=Tryz.func184.trans (congrArg some (by kernel_rfl))
 f28:=Tryz.func185.trans (congrArg some (by kernel_rfl))
 f35:=Tryz.func189.trans (congrArg some (by kernel_rfl))
 f39:=Tryz.func191.trans (congrArg some (by kernel_rfl))
 t0:=Tryz.underlying0
 a0:=Tryz.isAgg0
 z0:=Tryz.sizeOf0
 v0:=Tryz.zeroValue0
 t3:=Tryz.underlying3
 a3:=Tryz.isAgg3
 z3:=Tryz.sizeOf3
 v3:=Tryz.zeroValue3
 t4:=Tryz.underlying4
 a4:=Tryz.isAgg4
 z4:=Tryz.sizeOf4
 v4:=Tryz.zeroValue4
 t22:=Tryz.underlying41
 a22:=Tryz.isAgg41
 z22:=Tryz.sizeOf41
 v22:=Tryz.zeroValue41
 i3:=by kernel_rfl}
set_option maxRecDepth 100000
def ints (L:List Nat):List Value:=L.map fun z:Nat=> .int .i64 (z:Int)
theorem search_any (B:Nat) (v:Value) (n:Nat) (L:List Nat) (x:Int) (w:World) (hn:L.length=n) (hb:n≤1000000) (hown:w.ownsRow B 3 1 v n (ints L)) (hs:L.Pairwise (· ≤ ·)):
 Calls Tryz.prog 174 #[v,.int .i64 x] w fun e w'=>e= .returned (.tuple #[.int .i64 (L.countP (fun z:Nat=>decide ((z:Int)<x)):Nat),.bool (decide (∃z∈L,(z:Int)=x))])∧ ∃q,w'=w.drewN q:=by
 rcases hown.2 with⟨rfl,h0⟩|⟨g,cap,cur,rfl,_,hg,_⟩
 ·subst h0
  obtain rfl:L=[]:=List.eq_nil_of_length_eq_zero hn;refine(Any.slices_BinarySearch_int_empty lays25 none 0 x w).mono ?_;rintro e w' ⟨rfl,rfl⟩;exact⟨by simp,0,rfl⟩
 ·obtain⟨Z,hZ⟩: ∃Z:List Int,Z=L.map Int.ofNat:=⟨_,rfl⟩
  have hz:Z.take n=Z:=List.take_of_length_le (by simp[hZ,hn]);refine(Any.slices_BinarySearch_int lays25 g 0 n cap Z x w (by simp[hZ,hn]) (by omega) (fun j hj=>?_) (by rw[hz,hZ];exact List.pairwise_map.2 (hs.imp (fun h=>Int.ofNat_le.2 h)))).mono ?_
  ·simp[hZ]at hj
   rw[Nat.zero_add,hown.cellAt j (by omega)];simp[ints,hj,hZ]
  ·rintro e w' ⟨rfl,q,rfl⟩
   rw[hz];have e1:Z.countP (fun z=>decide (z<x))=L.countP (fun z:Nat=>decide ((z:Int)<x)):=by rw[hZ,List.countP_map];rfl
   have e2:Z.contains x=decide (∃z∈L,(z:Int)=x):=by
    rw[Bool.eq_iff_iff,hZ];simp
   rw[←e1,←e2];exact⟨rfl,q,rfl⟩
theorem setCells_only {w:World} {g:Nat}: ∀(vs:List Value) (o:Nat) (W:World),w.grownBy W (some g)→w.grownBy (W.setCells g o vs) (some g)
 |[],o,W,h=>h
 |v::t,o,W,h=>by
  rw[World.setCells];exact setCells_only t (o+1) _ (only_set h o v)
def ins (L:List Nat) (i x:Nat):List Nat:=L.take i++x::L.drop i
theorem ins_len (L:List Nat) (i x:Nat) (hi:i≤L.length):(ins L i x).length=L.length+1:=by simp[ins];omega
theorem own_set {w:World} {B g n cap k:Nat} {e:TypeId} {xs ys:List Value} (h:w.ownsRow B e 1 (.slice (some ⟨g,0,none⟩) n cap) n xs) (hk:k≤cap) (hl:ys.length=k) {W:World} (hW: ∃cs,W.heap[g]? =some (.cells cs e (0,0))∧cs.size=cap∧cs.toList.take k=ys):
 W.ownsRow B e 1 (.slice (some ⟨g,0,none⟩) k cap) k ys:=by
 rcases h.2 with⟨h1,_⟩|⟨g',cap',cur,e1,hB,hg,_,hcm,hcs,_⟩
 ·cases h1
 ·simp only[Value.slice.injEq,true_and,Option.some.injEq,Addr.mk.injEq,and_true]at e1
  obtain⟨rfl,rfl⟩:=e1;obtain⟨cs,h2,h3,h4⟩:=hW;exact⟨by rw[hl,Nat.mul_one],Or.inr ⟨g,cap,cs,rfl,hB,h2,hk,hcm,by rw[h3,Nat.mul_one],by rw[Nat.mul_one];exact h4⟩⟩
theorem row_setCells {g:Nat} {e:TypeId} {fz:Nat×Nat}: ∀(vs:List Value) (o:Nat) (w:World) (cs:Array Value),w.heap[g]? =some (.cells cs e fz)→(w.setCells g o vs).heap[g]? =some (.cells (Go.Proofs.YtibjkhepedfpiaaGreatDoor.Rg.putAt cs o vs) e fz)
 |[],o,w,cs,h=>h
 |v::t,o,w,cs,h=>by
  rw[World.setCells,Go.Proofs.YtibjkhepedfpiaaGreatDoor.Rg.putAt];refine row_setCells t (o+1) _ _ ?_;simp[World.setCell,Array.getElem?_modify,h]
theorem put_size: ∀(vs:List Value) (o:Nat) (cs:Array Value),(Go.Proofs.YtibjkhepedfpiaaGreatDoor.Rg.putAt cs o vs).size=cs.size
 |[],o,cs=>rfl
 |v::t,o,cs=>by rw[Go.Proofs.YtibjkhepedfpiaaGreatDoor.Rg.putAt,put_size t];simp
theorem put_get: ∀(vs:List Value) (o:Nat) (cs:Array Value) (i:Nat),o+vs.length≤cs.size→(Go.Proofs.YtibjkhepedfpiaaGreatDoor.Rg.putAt cs o vs)[i]? =if o≤i∧i<o+vs.length then vs[i-o]? else cs[i]?
 |[],o,cs,i,_=>by rw[Go.Proofs.YtibjkhepedfpiaaGreatDoor.Rg.putAt,if_neg (by intro h;have:=h.2;simp at this;omega)]
 |v::t,o,cs,i,h=>by
  simp only[List.length_cons]at h ⊢;rw[Go.Proofs.YtibjkhepedfpiaaGreatDoor.Rg.putAt,put_get t (o+1) _ i (by simp;omega)];by_cases h1:o+1≤i∧i<o+1+t.length
  ·rw[if_pos h1,if_pos (by omega),show i-o=i-(o+1)+1 by omega,List.getElem?_cons_succ]
  ·rw[if_neg h1]
   by_cases h2:i=o
   ·subst h2
    rw[if_pos (by omega),Nat.sub_self,Array.getElem?_setIfInBounds_self_of_lt (by omega)];rfl
   ·rw[if_neg (by omega),Array.getElem?_setIfInBounds_ne (by omega)]
theorem ins_get (L:List Nat) (i x n k:Nat) (hn:L.length=n) (hi:i≤n):(ints (ins L i x))[k]? =if k<i then(ints L)[k]? else if k=i then some (.int .i64 (x:Int))else(ints L)[k-1]? :=by
 unfold ints ins;rw[List.getElem?_map];by_cases h1:k<i
 ·rw[if_pos h1,List.getElem?_append_left (by simp;omega),List.getElem?_take,if_pos h1,List.getElem?_map]
 ·rw[if_neg h1,List.getElem?_append_right (by simp;omega)]
  by_cases h2:k=i
  ·subst h2
   rw[if_pos rfl];simp[Nat.min_eq_left (by omega:k≤L.length)]
  ·rw[if_neg h2]
   rw[List.length_take,Nat.min_eq_left (by omega),show k-i=(k-1-i)+1 by omega,List.getElem?_cons_succ,List.getElem?_drop,List.getElem?_map]
   congr 2
   omega
theorem insert_any (B:Nat) (v:Value) (n i x g9:Nat) (L:List Nat) (w:World) (hn:L.length=n) (hb:n≤1000000) (hi:i≤n) (hown:w.ownsRow B 3 1 v n (ints L)) (hB:B≤w.heap.size) (hne:v.ownBlock≠some g9) (h9:Blk w g9 3 #[.int .i64 (x:Int)]):
 Calls Tryz.prog 175 #[v,.int .i64 i,.slice (some ⟨g9,0,none⟩) 1 1] w fun e w'=> ∃v',e= .returned v'∧w'.ownsRow B 3 1 v' (n+1) (ints (ins L i x))∧w.grownBy w' v.ownBlock∧(v'.ownBlock=v.ownBlock∨v'.ownBlock=some w.heap.size):=by
 have hv9: ∀j u,[Value.int .i64 (x:Int)][j]? =some u→w.cell? ⟨g9,0+j,none⟩=some u:=fun j u hj=>by
  cases j with
  |zero=>simp at hj;subst hj;exact Blk.cell h9 0 rfl
  |succ j=>simp at hj
 have h1v: ∀u∈[Value.int .i64 (x:Int)],u.oneCell'=true:=by simp[Value.oneCell']
 have hlen:=hown.1;rw[Nat.mul_one]at hlen;have hxl:(ints (ins L i x)).length=n+1:=by unfold ints;rw[List.length_map,ins_len L i x (by omega),hn]
 rcases hown.2 with⟨rfl,rfl⟩|⟨g,cap,cur,rfl,hBg,hg,hnc,hcm,hcs,htk⟩
 ·obtain rfl:L=[]:=List.eq_nil_of_length_eq_zero hn
  obtain rfl:i=0:=by omega
  refine(Any2.slices_Insert_int_end_grow lays21 none 0 0 g9 0 1 1 [] [.int .i64 (x:Int)] w (by decide) (by decide) (by decide) (by decide) rfl rfl (fun _=>rfl) (fun a h=>(by cases h)) hv9 h1v).mono ?_;rintro e w' ⟨rfl,rfl⟩;have hc:=grownCap_ge w (0+1) 0 3;have hm:=grownCap_le_maxLen w (0+1) 0 3 (by decide);refine⟨_,rfl,⟨by rw[hxl],Or.inr ⟨w.heap.size,_,_,rfl,hB,heap_alloc_new w.drew _,hc,hm,?_,?_⟩⟩,⟨rfl,rfl,rfl,by simp,fun k hk _=>heap_alloc_old w.drew _ hk⟩,Or.inr rfl⟩
  ·rw[Array.size_append,size_zeroCells]
   rw[show(Value.int IntKind.i64 0).cells.size=1 from rfl];show 1+(grownCap w (0+1) 0 3-(0+1))*1=grownCap w (0+1) 0 3*1;omega
  ·simp[ins,ints]
 ·have holds: ∀j u,(ints L)[j]? =some u→w.cell? ⟨g,0+j,none⟩=some u:=fun j u hj=>by
   rw[Nat.zero_add,hown.cellAt j (by rw[Nat.mul_one,←hlen];exact(List.getElem?_eq_some_iff.1 hj).1)];exact hj
  have h1c: ∀u∈ints L,u.oneCell'=true:=fun u hu=>by
   unfold ints at hu;obtain⟨z,_,rfl⟩:=List.mem_map.1 hu;rfl
  have hgne:g9≠g:=fun e=>hne (by rw[e];rfl);have hcz:cur.size=cap:=by rw[hcs,Nat.mul_one]
  have hsp: ∀j,j<cap→(w.cell? ⟨g,j,none⟩).isSome=true:=fun j hj=>by
   rw[cell_of_row w g j cur _ _ hg,Array.getElem?_eq_getElem (by omega)];rfl
  have hfz: ∀j,w.frozen? ⟨g,j,none⟩=false:=fun j=>hown.frozenAt j;have hfin: ∀(vs:List Value) (o:Nat) (vs2:List Value) (o2:Nat),vs=vs:=fun _ _ _ _=>rfl;clear hfin;by_cases hin:i<n
  ·by_cases hroom:n+1≤cap
   ·refine(Any2.slices_Insert_int_shift lays21 g 0 n cap i g9 0 1 1 (ints L) [.int .i64 (x:Int)] w hin (by decide) hroom (by unfold maxLen at hcm;omega) hgne hlen rfl holds (fun j hj=>by rw[Nat.zero_add];exact hsp j (by omega)) (fun j _=>by rw[Nat.zero_add];exact hfz j) hv9 h1c h1v
     3 3 1 cap (by unfold World.shape?;rw[show w.heap[g9]? =_ from h9];rfl) (by unfold World.shape?;rw[hg];simp[hcz]) (by omega) (Blk.frozen h9 0) (by unfold World.frozen?;rw[show w.heap[g9]? =_ from h9];rfl)).mono ?_
    rintro e w' ⟨rfl,rfl⟩;simp only[Nat.zero_add];refine⟨_,rfl,own_set hown hroom hxl ⟨_,row_setCells _ _ _ _ (row_setCells _ _ _ _ hg),?_,?_⟩,setCells_only _ _ _ (setCells_only _ _ _ ⟨rfl,rfl,rfl,Nat.le_refl _,fun _ _ _=>rfl⟩),Or.inl rfl⟩
    ·rw[put_size,put_size,hcz]
    ·apply List.ext_getElem?
     intro k;rw[List.getElem?_take];have hdl:((ints L).drop i).length=n-i:=by rw[List.length_drop,hlen]
     by_cases hk:k<n+1
     ·rw[if_pos hk,Array.getElem?_toList,put_get _ _ _ _ (by rw[put_size];simp;omega),put_get _ _ _ _ (by rw[hdl];omega)]
      have hik:=ins_get L i x n k hn hi;rw[hik];by_cases h1:k<i
      ·rw[if_pos h1,if_neg (by simp;omega),if_neg (by omega)]
       rw[←htk,List.getElem?_take,if_pos (by omega),Array.getElem?_toList]
      ·rw[if_neg h1]
       by_cases h2:k=i
       ·subst h2
        rw[if_pos rfl,if_pos (by simp)];simp
       ·rw[if_neg h2,if_neg (by simp;omega),if_pos (by rw[hdl];omega),List.getElem?_drop]
        congr 1
        omega
     ·rw[if_neg hk,List.getElem?_eq_none (by omega)]
   ·have hc:=grownCap_ge w (n+1) cap 3
    have hm:=grownCap_le_maxLen w (n+1) cap 3 (by unfold maxLen;omega);have hzs: ∀k,(Builtin.zeroCells (Value.int .i64 0).cells k).size=k:=fun k=>by rw[size_zeroCells,show(Value.int IntKind.i64 0).cells.size=1 from rfl,Nat.mul_one]
    refine(Any2.slices_Insert_int_grow lays21 g 0 n cap i g9 0 1 1 (ints L) [.int .i64 (x:Int)] w hin (by decide) hnc (by omega) (by omega) hlen rfl holds hv9 h1c h1v).mono ?_;rintro e w' ⟨rfl,rfl⟩;obtain⟨C,hC⟩: ∃C,((ints L).take i).toArray++Builtin.zeroCells (Value.int .i64 0).cells (n+1-i)++Builtin.zeroCells (Value.int .i64 0).cells (grownCap w (n+1) cap 3-(n+1))=C:=⟨_,rfl⟩
    have hCz:C.size=grownCap w (n+1) cap 3:=by
     rw[←hC,Array.size_append,Array.size_append,hzs,hzs];simp[hlen];omega
    have hCt: ∀k,k<i→C[k]? =(ints L)[k]? :=fun k hk=>by
     rw[←hC,Array.append_assoc,Array.getElem?_append_left (by simp[hlen];omega)];simp[hk]
    rw[show lays21_ren.t 3=3 from rfl,hC]
    have hrow:(((w.alloc (.cells C 3)).drew.setCells w.heap.size i [.int .i64 (x:Int)]).drew.setCells w.heap.size (i+1) ((ints L).drop i)).heap[w.heap.size]? =some (.cells (Go.Proofs.YtibjkhepedfpiaaGreatDoor.Rg.putAt (Go.Proofs.YtibjkhepedfpiaaGreatDoor.Rg.putAt C i [.int .i64 (x:Int)]) (i+1) ((ints L).drop i)) 3):=
     row_setCells _ _ _ _ (row_setCells _ _ _ _ (heap_alloc_new w _))
    have hgr:w.grownBy (((w.alloc (.cells C 3)).drew.setCells w.heap.size i [.int .i64 (x:Int)]).drew.setCells w.heap.size (i+1) ((ints L).drop i)) (some w.heap.size):=
     setCells_only _ _ _ (only_drew (setCells_only (w:=w) _ _ _ (only_drew (only_alloc (only_refl _ _) _))))
    refine⟨_,rfl,⟨by rw[hxl,Nat.mul_one],Or.inr ⟨w.heap.size,_,_,rfl,hB,hrow,hc,hm,?_,?_⟩⟩,⟨hgr.os,hgr.tape,hgr.output,hgr.size,fun k hk _=>hgr.block k hk (fun e=>by injection e with e;omega)⟩,Or.inr rfl⟩
    ·rw[put_size,put_size,hCz,Nat.mul_one]
    ·apply List.ext_getElem?
     intro k;rw[List.getElem?_take,Nat.mul_one];have hdl:((ints L).drop i).length=n-i:=by rw[List.length_drop,hlen]
     by_cases hk:k<n+1
     ·rw[if_pos hk,Array.getElem?_toList,put_get _ _ _ _ (by rw[put_size,hdl];omega),put_get _ _ _ _ (by simp;omega),ins_get L i x n k hn hi]
      by_cases h1:k<i
      ·rw[if_pos h1,if_neg (by omega),if_neg (by omega),hCt k h1]
      ·rw[if_neg h1]
       by_cases h2:k=i
       ·subst h2
        rw[if_pos rfl,if_neg (by omega),if_pos (by simp)];simp
       ·rw[if_neg h2,if_pos (by rw[hdl];omega),List.getElem?_drop]
        congr 1
        omega
     ·rw[if_neg hk,List.getElem?_eq_none (by omega)]
  ·obtain rfl:i=n:=by omega
   have hins:ints (ins L i x)=ints L++[.int .i64 (x:Int)]:=by
    unfold ints ins;rw[List.take_of_length_le (by omega),List.drop_of_length_le (by omega)];simp
   by_cases hroom:i+1≤cap
   ·refine(Any2.slices_Insert_int_end_room lays21 g 0 i cap g9 0 1 1 [.int .i64 (x:Int)] w (by decide) hroom (by unfold maxLen at hcm;omega) rfl (fun j hj=>by rw[show 0+i+j=i by omega];exact hsp i (by omega)) (fun j _=>hfz _) hv9 h1v).mono ?_
    rintro e w' ⟨rfl,rfl⟩;refine⟨_,rfl,own_set hown hroom hxl ⟨_,row_setCells _ _ _ _ hg,by rw[put_size,hcz],?_⟩,setCells_only _ _ _ ⟨rfl,rfl,rfl,Nat.le_refl _,fun _ _ _=>rfl⟩,Or.inl rfl⟩;rw[hins];apply List.ext_getElem?;intro k;rw[List.getElem?_take];by_cases hk:k<i+1
    ·rw[if_pos hk,Array.getElem?_toList,put_get _ _ _ _ (by simp;omega)]
     by_cases h2:k=i
     ·subst h2
      rw[if_pos (by simp),List.getElem?_append_right (by omega),hlen];simp
     ·rw[if_neg (by simp;omega),List.getElem?_append_left (by omega),←htk,List.getElem?_take,if_pos (by omega),Array.getElem?_toList]
    ·rw[if_neg hk,List.getElem?_eq_none (by simp[hlen];omega)]
   ·have hc:=grownCap_ge w (i+1) cap 3
    have hm:=grownCap_le_maxLen w (i+1) cap 3 (by unfold maxLen;omega)
    refine(Any2.slices_Insert_int_end_grow lays21 (some ⟨g,0,none⟩) i cap g9 0 1 1 (ints L) [.int .i64 (x:Int)] w (by decide) hnc (by omega) (by omega) hlen rfl (fun h=>(by cases h)) (fun a ha j u hj=>by
     injection ha with ha
     subst ha;rw[show(⟨g,0,none⟩:Addr).add j=⟨g,0+j,none⟩ by unfold Addr.add;split<;>simp_all];exact holds j u hj) hv9 h1v).mono ?_
    rintro e w' ⟨rfl,rfl⟩;refine⟨_,rfl,⟨by rw[hxl,Nat.mul_one],Or.inr ⟨w.heap.size,_,_,rfl,hB,heap_alloc_new w.drew _,hc,hm,?_,?_⟩⟩,⟨rfl,rfl,rfl,by simp,fun k hk _=>heap_alloc_old w.drew _ hk⟩,Or.inr rfl⟩
    ·rw[Array.size_append,size_zeroCells,show(Value.int IntKind.i64 0).cells.size=1 from rfl]
     simp[hlen];have:i+1≤grownCap w (i+1) cap 3:=hc;show i+1+(grownCap w (i+1) cap 3-(i+1))=grownCap w (i+1) cap 3;omega
    ·rw[hins,Array.toList_append,List.take_append_of_le_length (by simp[hlen]),List.take_of_length_le (by simp[hlen])]
end Go.Proofs.YtibjkhepedfpiaaGreatDoor.TlS
namespace Go.Proofs.YtibjkhepedfpiaaGreatDoor.TbM
open Go Go.RowKit Q Mem Rg Ap ApG St BiW Tab TlS Fl
set_option maxRecDepth 100000
def Fm (w:World) (g:Nat) (t:TypeId) (n:Nat) (f:Nat→Value):Prop:= ∃cs,w.heap[g]? =some (.cells cs t (0,0))∧cs.size=n∧ ∀i,i<n→cs[i]? =some (f i)
section
variable {w w':World} {g n:Nat} {t:TypeId} {f f':Nat→Value}
theorem Fm.lt (h:Fm w g t n f):g<w.heap.size:=by obtain⟨cs,h1,_⟩:=h;exact(Array.getElem?_eq_some_iff.1 h1).1
theorem Fm.cell (h:Fm w g t n f) (i:Nat) (hi:i<n):w.cell? ⟨g,i,none⟩=some (f i):=by
 obtain⟨cs,h1,_,h3⟩:=h;rw[cell_of_row w g i cs _ _ h1];exact h3 i hi
theorem Fm.frozen (h:Fm w g t n f) (i:Nat):w.frozen? ⟨g,i,none⟩=false:=by
 obtain⟨cs,h1,_⟩:=h;simp[World.frozen?,h1]
theorem Fm.same (h:Fm w g t n f) (hb:w'.heap[g]? =w.heap[g]?):Fm w' g t n f:=by obtain⟨cs,h1,h2⟩:=h;exact⟨cs,hb.trans h1,h2⟩
theorem Fm.below {B:Nat} (h:Fm w g t n f) (hb:Below B w w') (hg:g<B):Fm w' g t n f:=h.same (hb.block g hg)
theorem Fm.ext (h:Fm w g t n f) (p:Ext):Fm (ext w p) g t n f:=h.same (ext_block p h.lt)
theorem Fm.congr (h:Fm w g t n f) (he: ∀i,i<n→f i=f' i):Fm w g t n f':=by
 obtain⟨cs,h1,h2,h3⟩:=h;exact⟨cs,h1,h2,fun i hi=>by rw[←he i hi];exact h3 i hi⟩
theorem Fm.put (h:Fm w g t n f) (i:Nat) (u:Value):Fm (w.setCell ⟨g,i,none⟩ u) g t n (fun j=>if j=i then u else f j):=by
 obtain⟨cs,h1,h2,h3⟩:=h;refine⟨cs.setIfInBounds i u,?_,by simp[h2],fun j hj=>?_⟩
 ·simp[World.setCell,Array.getElem?_modify,h1]
 ·by_cases e:j=i
  ·subst e
   dsimp only;rw[if_pos rfl,Array.getElem?_setIfInBounds_self_of_lt (by omega)]
  ·dsimp only
   rw[if_neg e,Array.getElem?_setIfInBounds_ne (fun h=>e h.symm)];exact h3 j hj
theorem Fm.far (h:Fm w g t n f) {p:Addr} (hp:g≠p.block) (u:Value):Fm (w.setCell p u) g t n f:=h.same (Below.heap_setCell w p u g hp)
theorem Fm.alloc (h:Fm w g t n f) (o:Obj):Fm (w.alloc o) g t n f:=h.same (Below.heap_alloc w o g h.lt)
end
structure Kept (F:Nat→Prop) (w w':World):Prop where
 os:w'.os=w.os
 tape:w'.tape=w.tape
 output:w'.output=w.output
 size:w.heap.size≤w'.heap.size
 block: ∀i,i<w.heap.size→ ¬F i→w'.heap[i]? =w.heap[i]?
section
variable {a b c:World} {F G:Nat→Prop}
theorem Kept.refl (F:Nat→Prop) (a:World):Kept F a a:=⟨rfl,rfl,rfl,Nat.le_refl _,fun _ _ _=>rfl⟩
theorem Kept.trans (h:Kept F a b) (k:Kept G b c) (hG: ∀i,i<a.heap.size→G i→F i):Kept F a c:=
 ⟨k.os.trans h.os,k.tape.trans h.tape,k.output.trans h.output,Nat.le_trans h.size k.size,fun i hi hF=>(k.block i (Nat.lt_of_lt_of_le hi h.size) (fun hg=>hF (hG i hi hg))).trans (h.block i hi hF)⟩
theorem Kept.mono (h:Kept G a b) (hG: ∀i,i<a.heap.size→G i→F i):Kept F a b:=⟨h.os,h.tape,h.output,h.size,fun i hi hF=>h.block i hi (fun hg=>hF (hG i hi hg))⟩
theorem kept_below (F:Nat→Prop) (h:Below a.heap.size a b):Kept F a b:=⟨h.os,h.tape,h.output,h.size,fun i hi _=>h.block i hi⟩
theorem kept_grown {row:Option Nat} (h:a.grownBy b row) (hF: ∀r,row=some r→F r):Kept F a b:=⟨h.os,h.tape,h.output,h.size,fun i hi hn=>h.block i hi (fun e=>hn (hF i e.symm))⟩
theorem kept_set {p:Addr} {u:Value} (hF:F p.block):Kept F a (a.setCell p u):=⟨rfl,rfl,rfl,by simp[World.setCell],fun i _ hn=>Below.heap_setCell a p u i (fun e=>hn (e▸hF))⟩
theorem Kept.be {B:Nat} (h:Kept F a b) (hB:B≤a.heap.size) (hF: ∀i,F i→B≤i):Below B a b:=⟨h.os,h.tape,h.output,h.size,fun i hi=>h.block i (by omega) (fun hf=>by have:=hF i hf;omega)⟩
theorem Kept.then (h:Kept F a b) (k:Below a.heap.size b c):Kept F a c:=⟨k.os.trans h.os,k.tape.trans h.tape,k.output.trans h.output,Nat.le_trans h.size k.size,fun i hi hn=>(k.block i hi).trans (h.block i hi hn)⟩
theorem Kept.pre (k:Below a.heap.size a b) (h:Kept F b c):Kept F a c:=⟨h.os.trans k.os,h.tape.trans k.tape,h.output.trans k.output,Nat.le_trans k.size h.size,fun i hi hn=>(h.block i (Nat.lt_of_lt_of_le hi k.size) hn).trans (k.block i hi)⟩
theorem Kept.cell {p:Addr} (h:Kept F a b) (hp:p.block<a.heap.size) (hn: ¬F p.block):b.cell? p=a.cell? p:=World.cell?_of_block (h.block _ hp hn)
end
structure Tb where
 R:Nat
 b:Nat→UInt8
 is:Nat→Bool
 st:List Nat
def rowF (S:Tb) (k:Nat):Value:=if k%510<255 then u8v (S.b ((k%510)*S.R+k/510))else .bool (S.is ((k%510-255)*S.R+k/510))
def foot (gt gr:Nat) (v:Value) (i:Nat):Prop:=i=gt∨i=gr∨v.ownBlock=some i
structure TbIn (w:World) (B gt gr:Nat) (v:Value) (S:Tb):Prop where
 box:Blk w gt 288 #[.slice (some ⟨gr,0,none⟩) S.R S.R,v]
 rows:Fm w gr 292 (S.R*510) (rowF S)
 st:w.ownsRow B 3 1 v S.st.length (ints S.st)
 ne:gt≠gr
 nt:v.ownBlock≠some gt
 nr:v.ownBlock≠some gr
 bt:B≤gt
 br:B≤gr
theorem TbIn.ge {w:World} {B gt gr:Nat} {v:Value} {S:Tb} (h:TbIn w B gt gr v S): ∀i,foot gt gr v i→B≤i∧i<w.heap.size:=by
 rintro i (rfl|rfl|e)
 ·exact⟨h.bt,h.box.lt⟩
 ·exact⟨h.br,h.rows.lt⟩
 ·exact h.st.lt i e
theorem TbIn.kept {w w':World} {B gt gr:Nat} {v:Value} {S:Tb} {F:Nat→Prop} (h:TbIn w B gt gr v S) (k:Kept F w w') (hF: ∀i,foot gt gr v i→ ¬F i):TbIn w' B gt gr v S:=by
 refine⟨(k.block gt h.box.lt (hF _ (Or.inl rfl))).trans h.box,h.rows.same (k.block gr h.rows.lt (hF _ (Or.inr (Or.inl rfl)))),?_,h.ne,h.nt,h.nr,h.bt,h.br⟩;refine⟨h.st.1,?_⟩;rcases h.st.2 with h1|⟨g,cap,cur,e,hb,hg,h2⟩
 ·exact Or.inl h1
 ·refine Or.inr ⟨g,cap,cur,e,hb,?_,h2⟩
  rw[k.block g (Array.getElem?_eq_some_iff.1 hg).1 (hF g (Or.inr (Or.inr (by rw[e];rfl))))];exact hg
theorem TbIn.below {w w':World} {B gt gr:Nat} {v:Value} {S:Tb} (h:TbIn w B gt gr v S) (k:Below w.heap.size w w'):TbIn w' B gt gr v S:=
 h.kept (kept_below (fun _=>False) k) (fun _ _ h=>h)
def Tb.set (S:Tb) (p:Nat) (c:UInt8):Tb:={S with b:=fun i=>if i=p then c else S.b i,is:=fun i=>if i=p then true else S.is i}
theorem div_lt {R p:Nat} (h:p<255*R):p%R<R∧p/R<255∧p/R*R+p%R=p:=by
 have hR:0<R:=by omega
 refine⟨Nat.mod_lt _ hR,(Nat.div_lt_iff_lt_mul hR).2 h,?_⟩;rw[Nat.mul_comm];exact Nat.div_add_mod p R
theorem split_eq {R r r' c c':Nat} (hr:r<R) (hr':r'<R) (h:c*R+r=c'*R+r'):c=c'∧r=r':=by
 have h1:(c*R+r)/R=c:=by rw[Nat.mul_comm,Nat.mul_add_div (by omega),Nat.div_eq_of_lt hr];omega
 have h2:(c'*R+r')/R=c':=by rw[Nat.mul_comm,Nat.mul_add_div (by omega),Nat.div_eq_of_lt hr'];omega
 rw[h]at h1;have hc:c=c':=h1.symm.trans h2;subst hc;exact⟨rfl,by omega⟩
theorem rowF_set (S:Tb) (r c:Nat) (x:UInt8) (hr:r<S.R) (hc:c<255) (k:Nat) (hk:k<S.R*510):
 (if k=r*510+255+c then Value.bool true else if k=r*510+c then u8v x else rowF S k)=rowF (S.set (c*S.R+r) x) k:=by
 have hq:k/510<S.R:=(Nat.div_lt_iff_lt_mul (by decide)).2 hk;have hm:k%510<510:=Nat.mod_lt _ (by decide);unfold rowF Tb.set;dsimp only;by_cases h1:k%510<255
 ·rw[if_neg (by omega),if_pos h1,if_pos h1]
  by_cases h2:k=r*510+c
  ·rw[if_pos h2,if_pos]
   rw[show k%510=c by omega,show k/510=r by omega]
  ·rw[if_neg h2,if_neg]
   intro h;obtain⟨h3,h4⟩:=split_eq hq hr h;omega
 ·rw[if_neg h1,if_neg h1]
  by_cases h2:k=r*510+255+c
  ·rw[if_pos h2,if_pos]
   rw[show k%510-255=c by omega,show k/510=r by omega]
  ·rw[if_neg h2,if_neg (by omega),if_neg]
   intro h;obtain⟨h3,h4⟩:=split_eq hq hr h;omega
set_option maxRecDepth 100000
theorem data_any (w:World) (B gt gr:Nat) (v:Value) (S:Tb) (h:TbIn w B gt gr v S) (hR:S.R≤1024):Calls Tryz.prog 171 #[.pointer (some ⟨gt,0,none⟩)] w fun e w'=>e= .returned (.int .i64 (191*S.R:Nat))∧w=w':=by
 have c0:=Blk.cell h.box 0 (v:= .slice (some ⟨gr,0,none⟩) S.R S.R) rfl;have HX:=Lib.hid (show((191*S.R:Nat):Int)=(S.R:Int)*191 from by omega);obtain⟨R,hRR⟩: ∃R,S.R=R:=⟨_,rfl⟩;rw[hRR]at c0 HX hR ⊢;have k0:(0:Int)≤(R:Int):=Int.natCast_nonneg _;have k1:(R:Int)≤1024:=by omega
 clear h hRR
 go_enter Tryz.func171,Tryz.ntmps171
 go_wp2_with fail
 go_ret;exact⟨by rw[HX.out];rfl,rfl⟩
end Go.Proofs.YtibjkhepedfpiaaGreatDoor.TbM
namespace Go.Proofs.YtibjkhepedfpiaaGreatDoor.TbN
open Go Go.RowKit Q Mem Rg Ap ApG St BiW Tab TlS Fl TbM
set_option maxRecDepth 100000
theorem spot_any (w:World) (B gt gr p:Nat) (v:Value) (S:Tb) (h:TbIn w B gt gr v S) (hR:S.R≤1024) (hp:p<255*S.R):Calls Tryz.prog 181 #[.pointer (some ⟨gt,0,none⟩),.int .i64 p] w fun e w'=>e= .returned (.complex .f64 (fl (p/S.R)) (fl (p%S.R)))∧Below w.heap.size w w':=by
 have c0:=fun q=>Blk.cell (blk_ext h.box q) 0 (v:= .slice (some ⟨gr,0,none⟩) S.R S.R) rfl;obtain⟨R,hRR⟩: ∃R,S.R=R:=⟨_,rfl⟩;rw[hRR]at c0 hR hp ⊢;have hR0:R≠0:=by omega
 have HX:=Lib.hid (And.intro (ofInt_fl (p/R)) (ofInt_fl (p%R)));clear h hRR
 go_enter Tryz.func181,Tryz.ntmps181
 go_wp2_with fail
 refine Go.Proofs.YtibjkhepedfpiaaGreatDoor.Q.region_ext (by kernel_rfl) (by kernel_rfl) ?_
 repeat (go_big_quiet_step (fail))
 refine wpQuiet_nil ?_;rintro w9 ⟨pq,rfl⟩
 go_wp2_with fail
 go_ret;refine⟨?_,below_ext w pq⟩;have h1:p/R<255:=(Nat.div_lt_iff_lt_mul (by omega)).2 hp
 have h2:wrap64 ((p:Int)/(R:Int))=((p/R:Nat):Int):=by
  rw[←Int.natCast_ediv];obtain⟨x,hx⟩: ∃x,p/R=x:=⟨_,rfl⟩;rw[hx]at h1 ⊢;unfold wrap64;omega
 have h3:(p:Int)%(R:Int)=((p%R:Nat):Int):=(Int.natCast_emod p R).symm;rw[←HX.out.1,←HX.out.2,←h2,←h3];rfl
theorem place_any (w:World) (B gt gr p:Nat) (v:Value) (S:Tb) (h:TbIn w B gt gr v S) (hR:S.R≤1024) (hp:p<255*S.R):Calls Tryz.prog 172 #[.pointer (some ⟨gt,0,none⟩),.int .i64 p] w fun e w'=>e= .returned (.tuple #[.pointer (some ⟨gr,p%S.R*510,none⟩),.int .i64 ((p/S.R:Nat):Int)])∧Below w.heap.size w w':=by
 have ks:=spot_any w B gt gr p v S h hR hp;have hcv:=fun(n:Nat) (hn:n<1024) (V:World)=>run_cint (P:=Tryz.prog) (w:=V) 183 3 n (by kernel_rfl) Tryz.underlying3 (by omega);obtain⟨h1,h2,h3⟩:=div_lt hp;have k1:=hcv (p/S.R) (Nat.lt_of_lt_of_le h2 (by decide));have k2:=hcv (p%S.R) (Nat.lt_of_lt_of_le h1 hR);have HB:=Lib.hid h.box;have j1:(0:Int)≤((p%S.R:Nat):Int):=Int.natCast_nonneg _;have j2:((p%S.R:Nat):Int)<(S.R:Int):=Int.ofNat_lt.2 h1;clear h hcv h1 h2 h3 hp hR;obtain⟨x,hx⟩: ∃x,p/S.R=x:=⟨_,rfl⟩;obtain⟨y,hy⟩: ∃y,p%S.R=y:=⟨_,rfl⟩;rw[hx,hy]at ks;rw[hx]at k1;rw[hy]at k2 j1 j2;rw[hx,hy];obtain⟨R,hRR⟩: ∃R,S.R=R:=⟨_,rfl⟩;rw[hRR]at HB j2;clear hRR hx hy
 go_enter Tryz.func172,Tryz.ntmps172
 go_wp2_with fail
 (with_reducible refine(ks).mono ?_);rintro e1 W1 ⟨rfl,hb1⟩
 have c0:=Blk.cell (Blk.below HB.out hb1 HB.out.lt) 0 (v:= .slice (some ⟨gr,0,none⟩) R R) rfl;clear ks
 go_wp2_with fail
 go_ret2
 exact⟨rfl,hb1⟩
theorem Fm.drew {w:World} {g n:Nat} {t:TypeId} {f:Nat→Value} (h:Fm w g t n f):Fm w.drew g t n f:=h
theorem set_row (w:World) (g n r c:Nat) (f:Nat→Value) (x:Int) (h:Fm w g 292 n f) (hc:c<255) (hn:r*510+510≤n):
 Calls Tryz.prog 173 #[.pointer (some ⟨g,r*510,none⟩),.int .i64 c,.int .u8 x] w fun e w'=>e= .returned (.tuple #[])∧Fm w' g 292 n (fun k=>if k=r*510+255+c then .bool true else if k=r*510+c then .int .u8 x else f k)∧Kept (· =g) w w':=by
 have hD:=Fm.drew h;have d0:=hD.cell (r*510+c) (by omega);have d1:=hD.cell (r*510+255+c) (by omega);have g0:=hD.frozen (r*510+c);have g1:=hD.frozen (r*510+255+c);have hA:=hD.put (r*510+c) (.int .u8 x);have hB:=hD.put (r*510+255+c) (.bool true);have p1:=hA.cell (r*510+255+c) (by omega);have p2:=hA.frozen (r*510+255+c);have p3:=hB.cell (r*510+c) (by omega);have p4:=hB.frozen (r*510+c);have q1:(w.setCell ⟨g,r*510+c,none⟩ (.int .u8 x)).drew.cell? ⟨g,r*510+255+c,none⟩=some _:=p1;have q2:(w.setCell ⟨g,r*510+c,none⟩ (.int .u8 x)).drew.frozen? ⟨g,r*510+255+c,none⟩=false:=p2;have q3:(w.setCell ⟨g,r*510+255+c,none⟩ (.bool true)).drew.cell? ⟨g,r*510+c,none⟩=some _:=p3;have q4:(w.setCell ⟨g,r*510+255+c,none⟩ (.bool true)).drew.frozen? ⟨g,r*510+c,none⟩=false:=p4;have hAB:=hA.put (r*510+255+c) (.bool true);have hBA:=hB.put (r*510+c) (.int .u8 x);have HAB:=Lib.hid hAB;have HBA:=Lib.hid hBA;have k0:(0:Int)≤(c:Int):=Int.natCast_nonneg _;have k1:(c:Int)<255:=by omega
 clear h hD hA hB hAB hBA
 go_enter Tryz.func173,Tryz.ntmps173
 go_wp2_with fail
 go_region
 go_wp2_with fail
 go_end0
 refine⟨rfl,HAB.out,?_⟩;have h1:Kept (· =g) w (w.setCell ⟨g,r*510+c,none⟩ (.int .u8 x)):=kept_set rfl;have h2:=h1.trans (kept_set (a:=w.setCell ⟨g,r*510+c,none⟩ (.int .u8 x)) (p:=⟨g,r*510+255+c,none⟩) (u:= .bool true) (F:=(· =g)) rfl) (fun _ _ h=>h);exact⟨h2.os,h2.tape,h2.output,h2.size,h2.block⟩
theorem tb_rows {w w':World} {B gt gr:Nat} {v:Value} {S S':Tb} (h:TbIn w B gt gr v S) (k:Kept (· =gr) w w') (hR:S'.R=S.R) (hs:S'.st=S.st) (hr:Fm w' gr 292 (S.R*510) (rowF S')):TbIn w' B gt gr v S':=by
 refine⟨?_,?_,?_,h.ne,h.nt,h.nr,h.bt,h.br⟩
 ·rw[hR];exact(k.block gt h.box.lt h.ne).trans h.box
 ·rw[hR];exact hr
 ·rw[hs]
  refine⟨h.st.1,?_⟩;rcases h.st.2 with h1|⟨g,cap,cur,e,hb,hg,h2⟩
  ·exact Or.inl h1
  ·refine Or.inr ⟨g,cap,cur,e,hb,?_,h2⟩
   rw[k.block g (Array.getElem?_eq_some_iff.1 hg).1 (fun e2=>h.nr (by rw[e,e2];rfl))];exact hg
theorem set_any (w:World) (B gt gr r c:Nat) (v:Value) (S:Tb) (x:UInt8) (h:TbIn w B gt gr v S) (hc:c<255) (hr:r<S.R):
 Calls Tryz.prog 173 #[.pointer (some ⟨gr,r*510,none⟩),.int .i64 c,.int .u8 (x.toNat:Int)] w fun e w'=>e= .returned (.tuple #[])∧TbIn w' B gt gr v (S.set (c*S.R+r) x)∧Kept (· =gr) w w':=by
 refine(set_row w gr (S.R*510) r c (rowF S) x.toNat h.rows hc (by
  have:(r+1)*510≤S.R*510:=Nat.mul_le_mul_right _ hr;omega)).mono ?_
 rintro e w' ⟨rfl,hf,hk⟩;exact⟨rfl,tb_rows h hk rfl rfl (hf.congr (fun i hi=>rowF_set S r c x hr hc i hi)),hk⟩
end Go.Proofs.YtibjkhepedfpiaaGreatDoor.TbN
namespace Go.Proofs.YtibjkhepedfpiaaGreatDoor.TbO
open Go Go.RowKit Q Mem Rg Ap ApG St BiW Tab TlS Fl TbM TbN
set_option maxRecDepth 100000
def zrow:Value:= .agg (Array.replicate 255 (.int .u8 0)++Array.replicate 255 (.bool false))
theorem zrow_at (k:Nat) (hk:k<510):(Array.replicate 255 (Value.int .u8 0)++Array.replicate 255 (Value.bool false))[k]! =if k<255 then .int .u8 0 else .bool false:=by
 by_cases h:k<255
 ·rw[if_pos h,getElem!_pos _ _ (by simp;omega),Array.getElem_append_left (by simpa using h),Array.getElem_replicate]
 ·rw[if_neg h,getElem!_pos _ _ (by simp;omega),Array.getElem_append_right (by simpa using h),Array.getElem_replicate]
def emptyT (R:Nat):Tb:=⟨R,fun _=>0,fun _=>false,[]⟩
theorem rows_info:(Tryz.prog.info? 292).map (fun i=>(i.zero,i.size,i.bytes))=some (some zrow,510,510):=by kernel_rfl
theorem mk_rows (R:Nat) (hR:R≤1024) (V:World): ∃C:Array Value,(Instr.makeSlice 286 (.int .i64 (R:Int)) (.int .i64 (R:Int))).run Tryz.prog V= .ok (.slice (some ⟨V.heap.size,0,none⟩) R R) (V.alloc (.cells C 292))∧Fm (V.alloc (.cells C 292)) V.heap.size 292 (R*510) (rowF (emptyT R)):=by
 cases hi:Tryz.prog.info? 292 with
 |none=>have h:=rows_info;rw[hi]at h;cases h
 |some i=>
  have h:=rows_info;rw[hi]at h;simp only[Option.map_some,Option.some.injEq,Prod.mk.injEq]at h;obtain⟨h1,h2,h3⟩:=h;have hr:=run_make (P:=Tryz.prog) V 286 292 i zrow Tryz.underlying286 hi h1 .i64 .i64 R R (by omega) (Int.le_refl _) (by rw[h3];omega) (by omega);rw[Int.toNat_natCast,h2]at hr;have hz:zrow.cells=Array.replicate 255 (Value.int .u8 0)++Array.replicate 255 (Value.bool false):=rfl;rw[hz]at hr;obtain⟨Z,hZ⟩: ∃Z,Array.replicate 255 (Value.int .u8 0)++Array.replicate 255 (Value.bool false)=Z:=⟨_,rfl⟩;have hzs:Z.size=510:=by rw[←hZ];simp
  have hza:=zrow_at;rw[hZ]at hr hza;clear hZ hz h1 hi;refine⟨madeCells Z (R*510),hr,madeCells Z (R*510),heap_alloc_new V _,size_madeCells _ _,fun k hk=>?_⟩;unfold madeCells;rw[Array.getElem?_map,Array.getElem?_range];simp only[hk,if_true,Option.map_some]
  congr 1
  have hm:k%510<510:=Nat.mod_lt _ (by decide);rw[hzs,hza _ hm];rfl
end Go.Proofs.YtibjkhepedfpiaaGreatDoor.TbO
namespace Go.Proofs.YtibjkhepedfpiaaGreatDoor.TbP
open Go Go.RowKit Q Mem Rg Ap ApG St BiW Tab TlS Fl TbM TbN TbO SeEq
set_option maxRecDepth 100000
def sb (s:ByteArray) (i:Nat):UInt8:=s.data[i]?.getD 0
def laid (S:Tb) (p:Nat) (s:ByteArray) (k:Nat):Tb:={S with b:=fun i=>if p≤i∧i<p+k then sb s (i-p)else S.b i,is:=fun i=>if p≤i∧i<p+k then true else S.is i}
theorem laid_zero (S:Tb) (p:Nat) (s:ByteArray):laid S p s 0=S:=by
 unfold laid;have h: ∀i,¬(p≤i∧i<p+0):=fun i=>by omega
 simp only[h,if_false]
theorem laid_step (S:Tb) (p:Nat) (s:ByteArray) (k:Nat):(laid S p s k).set (p+k) (sb s k)=laid S p s (k+1):=by
 unfold laid Tb.set;dsimp only
 congr 1
 ·funext i
  by_cases h1:i=p+k
  ·subst h1
   rw[if_pos rfl,if_pos (by omega),show p+k-p=k by omega]
  ·rw[if_neg h1]
   by_cases h2:p≤i∧i<p+k
   ·rw[if_pos h2,if_pos (by omega)]
   ·rw[if_neg h2,if_neg (by omega)]
 ·funext i
  by_cases h1:i=p+k
  ·subst h1
   rw[if_pos rfl,if_pos (by omega)]
  ·rw[if_neg h1]
   by_cases h2:p≤i∧i<p+k
   ·rw[if_pos h2,if_pos (by omega)]
   ·rw[if_neg h2,if_neg (by omega)]
def putE (R:Nat) (at_:Int) (s:ByteArray):Int:=if at_<0∨(191*R:Nat)<at_∨((191*R:Nat):Int)-at_<s.size then 15 else 0
def below (L:List Nat) (p:Nat):Nat:=L.countP fun z=>decide (z<p)
def putS (S:Tb) (at_:Int) (s:ByteArray):Tb:=
 if putE S.R at_ s≠0∨s.size=0 then S
 else {laid S at_.toNat s s.size with st:=if at_.toNat∈S.st then S.st else ins S.st (below S.st at_.toNat) at_.toNat}
structure Ok (S:Tb):Prop where
 R:S.R≤1024
 R0:0<S.R
 st:S.st.length≤100000
 up:S.st.Pairwise (· < ·)
 lt: ∀z∈S.st,z<191*S.R
def far (w:World) (v v':Value):Prop:=v'.ownBlock=v.ownBlock∨ ∃j,v'.ownBlock=some j∧w.heap.size≤j
set_option maxHeartbeats 1600000 in
theorem put_any (w:World) (B gt gr:Nat) (v:Value) (S:Tb) (at_:Int) (s:ByteArray) (h:TbIn w B gt gr v S) (hok:Ok S) (hs:s.size≤1099511627776):
 Calls Tryz.prog 155 #[.pointer (some ⟨gt,0,none⟩),.int .i64 at_,.string s] w fun e w'=> ∃v',e= .returned (.int .i64 (putE S.R at_ s))∧TbIn w' B gt gr v' (putS S at_ s)∧far w v v'∧Kept (foot gt gr v) w w':=by
 have kd:=data_any w B gt gr v S h hok.R;have h01:=hok.R;by_cases hn:at_<0
 ·have t0:decide (at_<0)=true:=decide_eq_true hn
  have HE:=Lib.hid (show putE S.R at_ s=15 from if_pos (Or.inl hn));have HS:=Lib.hid (show putS S at_ s=S from if_pos (Or.inl (by rw[HE.out];decide)));clear hn kd hok
  go_enter Tryz.func155,Tryz.ntmps155
  go_wp2_with fail
  go_ret;exact⟨v,by rw[HE.out];rfl,by rw[HS.out];exact h,Or.inl rfl,Kept.refl _ _⟩
 ·have t0:decide (at_<0)=false:=decide_eq_false hn
  obtain⟨p,rfl⟩:=Int.eq_ofNat_of_zero_le (Int.not_lt.1 hn);clear hn;by_cases h1:191*S.R<p
  ·have t1:decide (((191*S.R:Nat):Int)<(p:Int))=true:=decide_eq_true (by omega)
   have t2:decide (191*S.R<p)=true:=decide_eq_true h1;have HE:=Lib.hid (show putE S.R p s=15 from if_pos (Or.inr (Or.inl (by omega))));have HS:=Lib.hid (show putS S p s=S from if_pos (Or.inl (by rw[HE.out];decide)));obtain⟨D,hD⟩: ∃D,191*S.R=D:=⟨_,rfl⟩;rw[hD]at kd t1 t2;clear h1 hok hD
   go_enter Tryz.func155,Tryz.ntmps155
   go_wp2_with fail
   (with_reducible refine(kd).mono ?_);rintro e1 W1 ⟨rfl,rfl⟩
   go_wp2_with fail
   go_ret;exact⟨v,by rw[HE.out];rfl,by rw[HS.out];exact h,Or.inl rfl,Kept.refl _ _⟩
  ·have t1:decide (((191*S.R:Nat):Int)<(p:Int))=false:=decide_eq_false (by omega)
   have t2:decide (191*S.R<p)=false:=decide_eq_false h1;by_cases h2:191*S.R-p<s.size
   ·have t3:decide (((191*S.R:Nat):Int)-(p:Int)<(s.size:Int))=true:=decide_eq_true (by omega)
    have HE:=Lib.hid (show putE S.R p s=15 from if_pos (Or.inr (Or.inr (by omega))));have HS:=Lib.hid (show putS S p s=S from if_pos (Or.inl (by rw[HE.out];decide)));have hDb:((191*S.R:Nat):Int)≤200000:=by omega
    have hpb:(p:Int)≤((191*S.R:Nat):Int):=by omega
    obtain⟨D,hD⟩: ∃D,191*S.R=D:=⟨_,rfl⟩;rw[hD]at kd t1 t2 t3 hDb hpb;have kp:(0:Int)≤(p:Int):=Int.natCast_nonneg _;clear h1 h2 hok hD
    go_enter Tryz.func155,Tryz.ntmps155
    go_wp2_with fail
    (with_reducible refine(kd).mono ?_);rintro e1 W1 ⟨rfl,rfl⟩
    go_wp2_with fail
    (with_reducible refine(kd).mono ?_);rintro e1 W1 ⟨rfl,rfl⟩
    go_wp2_with fail
    go_ret;exact⟨v,by rw[HE.out];rfl,by rw[HS.out];exact h,Or.inl rfl,Kept.refl _ _⟩
   ·have t3:decide (((191*S.R:Nat):Int)-(p:Int)<(s.size:Int))=false:=decide_eq_false (by omega)
    have hE0:putE S.R p s=0:=if_neg (by omega);have HE:=Lib.hid hE0;have hDb:((191*S.R:Nat):Int)≤200000:=by omega
    have hpb:(p:Int)≤((191*S.R:Nat):Int):=by omega
    have hps:p+s.size≤191*S.R:=by omega
    have kp:(0:Int)≤(p:Int):=Int.natCast_nonneg _;by_cases hz:s.size=0
    ·have t4:s.toList.isEmpty=true:=by rw[isEmpty_iff];simpa using hz
     have HS:=Lib.hid (show putS S p s=S from if_pos (Or.inr hz));obtain⟨D,hD⟩: ∃D,191*S.R=D:=⟨_,rfl⟩;rw[hD]at kd t1 t2 t3 hDb hpb;clear h1 h2 hok hD hz hps hE0
     go_enter Tryz.func155,Tryz.ntmps155
     go_wp2_with fail
     (with_reducible refine(kd).mono ?_);rintro e1 W1 ⟨rfl,rfl⟩
     go_wp2_with fail
     (with_reducible refine(kd).mono ?_);rintro e1 W1 ⟨rfl,rfl⟩
     go_wp2_with fail
     go_ret;exact⟨v,by rw[HE.out];rfl,by rw[HS.out];exact h,Or.inl rfl,Kept.refl _ _⟩
    ·have t4:s.toList.isEmpty=false:=by rw[isEmpty_iff];simpa using hz
     have HS:=Lib.hid (show putS S p s={laid S p s s.size with st:=if p∈S.st then S.st else ins S.st (below S.st p) p}from by
      unfold putS;rw[if_neg (by rw[hE0];simp[hz])];rfl)
     obtain⟨n,hn⟩: ∃n,s.size=n:=⟨_,rfl⟩;obtain⟨D,hD⟩: ∃D,191*S.R=D:=⟨_,rfl⟩;have HN:=Lib.hid (And.intro hn (And.intro hD hok));rw[hD]at kd t1 t2 t3 hDb hpb hps;rw[hn]at t3 hps;clear h1 h2 hok hD hz hE0;have HH:=Lib.hid h
     go_enter Tryz.func155,Tryz.ntmps155
     go_wp2_with fail
     (with_reducible refine(kd).mono ?_);rintro e1 W1 ⟨rfl,rfl⟩
     go_wp2_with fail
     (with_reducible refine(kd).mono ?_);rintro e1 W1 ⟨rfl,rfl⟩
     go_wp2_with fail
     go_loopw [38] (fun i wr=> ∃k:Nat,k≤n∧i= .int .i64 k∧Hid (TbIn wr B gt gr v (laid S p s k))∧Hid (Kept (foot gt gr v) w wr)) (fun i _=>n-(intOf i).toNat)
     case atStart=>exact⟨0,by omega,rfl,Lib.hid (by rw[laid_zero];exact h),Lib.hid (Kept.refl _ _)⟩
     case round=>
      obtain⟨k,hk,rfl,HT,HK⟩:=hrel;by_cases hkn:k<n
      ·have u0:decide (k<n)=true:=decide_eq_true hkn
       have hpk:p+k<255*S.R:=by have:=HN.out.2.1;omega
       have kpl:=place_any wr B gt gr (p+k) v (laid S p s k) HT.out h01 hpk;rw[show(laid S p s k).R=S.R from rfl]at kpl;obtain⟨d1,d2,d3⟩:=div_lt hpk;have hi: ∀V,(Instr.index 9 (.string s) (.int .i64 (k:Int))).run Tryz.prog V= .ok (.int .u8 ((sb s k).toNat:Int)) V:=fun V=>idx_at s k (by rw[HN.out.1];exact hkn) V;obtain⟨r,hr⟩: ∃r,(p+k)%S.R=r:=⟨_,rfl⟩;obtain⟨c,hc⟩: ∃c,(p+k)/S.R=c:=⟨_,rfl⟩;rw[hr]at kpl d1 d3;rw[hc]at kpl d2 d3;have HD:=Lib.hid d3;rw[show((p+k:Nat):Int)=(p:Int)+(k:Int) by omega]at kpl;have q1:(0:Int)≤(k:Int):=Int.natCast_nonneg _;have q2:(p:Int)+(k:Int)≤300000:=by omega
       clear hr hc d3 hpk
       go_wp2_with fail
       (with_reducible refine(kpl).mono ?_);rintro e2 W2 ⟨rfl,hb2⟩
       have HT2:=Lib.hid (HT.out.below hb2);have HK2:=Lib.hid (HK.out.then (by have:=HK.out.size;exact hb2.mono this));have kst:=set_any W2 B gt gr r c v (laid S p s k) (sb s k) HT2.out d2 d1;rw[show(laid S p s k).R=S.R from rfl,HD.out,laid_step]at kst;clear kpl HT HK hb2
       go_wp2_with fail
       (with_reducible refine(kst).mono ?_);rintro e3 W3 ⟨rfl,ht3,hk3⟩
       have HK3:=Lib.hid (HK2.out.trans hk3 (fun i _ e=>Or.inr (Or.inl e)));have HT3:=Lib.hid ht3;clear kst ht3 hk3 HT2 HK2
       go_wp2_with fail
       go_roundw
       case rel=>exact⟨k+1,by omega,by go_num,HT3,HK3⟩
       case measure=>simp[intOf];omega
      ·obtain rfl:k=n:=by omega
       have u0:decide (k<k)=false:=by simp
       have ksr:=search_any B v S.st.length S.st (p:Int) wr rfl (by have:=HN.out.2.2.st;omega) HT.out.st (HN.out.2.2.up.imp (fun h=>Nat.le_of_lt h))
       rw[show(fun z:Nat=>decide ((z:Int)<(p:Int)))=(fun z:Nat=>decide (z<p))from by funext z;simp,show S.st.countP (fun z:Nat=>decide (z<p))=below S.st p from rfl,
        show decide (∃z∈S.st,(z:Int)=(p:Int))=decide (p∈S.st)from by
         congr 1
         apply propext;constructor
         ·rintro⟨z,hz,e⟩
          rw[←show z=p by omega];exact hz
         ·intro h;exact⟨p,h,rfl⟩]at ksr
       have hbl:below S.st p≤S.st.length:=List.countP_le_length;obtain⟨i,hi⟩: ∃i,below S.st p=i:=⟨_,rfl⟩;have HI:=Lib.hid hi;rw[hi]at ksr hbl;clear hi;have c1:=Blk.cell HT.out.box 1 (v:=v) rfl;have c2:=fun q=>Blk.cell (Blk.drewN HT.out.box q) 1 (v:=v) rfl;by_cases hin:p∈S.st
       ·rw[decide_eq_true hin]at ksr
        have HS2:=Lib.hid (show putS S p s=laid S p s k from by rw[HS.out,if_pos hin,HN.out.1];rfl);clear hin
        go_wp2_with fail
        (with_reducible refine(ksr).mono ?_);rintro e2 W2 ⟨rfl,q,rfl⟩
        have hbq:=below_drewN (Below.refl wr.heap.size wr) q;have HT2:=Lib.hid (HT.out.below hbq);have HK2:=Lib.hid (HK.out.then (hbq.mono HK.out.size));clear ksr c1 c2
        go_wp2_with fail
        go_ret;exact⟨v,by rw[HE.out];rfl,by rw[HS2.out];exact HT2.out,Or.inl rfl,HK2.out⟩
       ·rw[decide_eq_false hin]at ksr
        have HS2:=Lib.hid (show putS S p s={laid S p s k with st:=ins S.st i p}from by rw[HS.out,if_neg hin,HN.out.1,HI.out]);clear hin
        go_wp2_with fail
        (with_reducible refine(ksr).mono ?_);rintro e2 W2 ⟨rfl,q,rfl⟩
        have hbq:=below_drewN (Below.refl wr.heap.size wr) q;have hbV:=hbq.alloc (Nat.le_refl _) (.cells #[.int .i64 (p:Int)] 3);have HTV:=Lib.hid (HT.out.below hbV);have kin:=insert_any B v S.st.length i p wr.heap.size S.st _ rfl (by have:=HN.out.2.2.st;omega) hbl HTV.out.st (Nat.le_trans (Nat.le_trans HT.out.bt (Nat.le_of_lt HT.out.box.lt)) hbV.size) (fun e=>by have:=(HT.out.st.lt _ e).2;omega) (Blk.newAt (wr.drewN q) 3 #[.int .i64 (p:Int)] (show wr.heap.size=(wr.drewN q).heap.size from rfl));have HKV:=Lib.hid (HK.out.then (hbV.mono HK.out.size));have HSZ:=Lib.hid (show v.ownBlock≠some wr.heap.size∧gt<wr.heap.size∧w.heap.size≤wr.heap.size from⟨fun e=>by have:=(HT.out.st.lt _ e).2;omega,HT.out.box.lt,HK.out.size⟩);clear ksr c1 hbq hbV
        go_wp2_with fail
        (with_reducible refine(kin).mono ?_);rintro e4 W4 ⟨v',rfl,hown',hg',hat'⟩
        have hx4:Blk W4 gt 288 #[.slice (some ⟨gr,0,none⟩) S.R S.R,v]:=(hg'.block gt HTV.out.box.lt (fun e=>HTV.out.nt e.symm)).trans HTV.out.box;have hr4:Fm W4 gr _ _ _:=HTV.out.rows.same (hg'.block gr HTV.out.rows.lt (fun e=>HTV.out.nr e.symm))
        have hnt:v'.ownBlock≠some gt:=fun e=>by
         rcases hat' with h|h
         ·exact HTV.out.nt (h▸e)
         ·rw[h]at e;injection e with e;have:=HTV.out.box.lt;omega
        have hnr:v'.ownBlock≠some gr:=fun e=>by
         rcases hat' with h|h
         ·exact HTV.out.nr (h▸e)
         ·rw[h]at e;injection e with e;have:=HTV.out.rows.lt;omega
        have hT9:TbIn (W4.setCell ⟨gt,1,none⟩ v') B gt gr v' {laid S p s k with st:=ins S.st i p}:=
         ⟨Blk.set_ hx4 1 v',hr4.far (show gr≠gt from fun e=>HTV.out.ne e.symm) v',by
          have hl:(ins S.st i p).length=S.st.length+1:=ins_len _ _ _ hbl;show(W4.setCell ⟨gt,1,none⟩ v').ownsRow B 3 1 v' (ins S.st i p).length _;rw[hl]
          exact hown'.kept (only_set (only_refl W4 (some gt)) 1 v') (by
           cases hv:v'.ownBlock with
           |none=>exact Or.inl rfl
           |some j=>exact Or.inr (fun e=>hnt (hv.trans e))),HTV.out.ne,hnt,hnr,HTV.out.bt,HTV.out.br⟩
        have hK9:Kept (foot gt gr v) w (W4.setCell ⟨gt,1,none⟩ v'):=
         (HKV.out.trans (kept_grown (F:=foot gt gr v) hg' (fun r e=>Or.inr (Or.inr e))) (fun _ _ h=>h)).trans (kept_set (F:=foot gt gr v) (p:=⟨gt,1,none⟩) (u:=v') (Or.inl rfl)) (fun _ _ h=>h)
        have hfar:far w v v':=by
         rcases hat' with h|h
         ·exact Or.inl h
         ·exact Or.inr ⟨_,h,by have:=HSZ.out.2.2;simp;omega⟩
        have HT9:=Lib.hid hT9;have HK9:=Lib.hid hK9;have c3:=Blk.cell hx4 1 (v:=v) rfl;have c4:=Blk.frozen hx4 1;obtain⟨av,cv,hvf⟩:=own_form hown';clear kin hown' hg' hat' hx4 hr4 hnt hnr hT9 hK9 c2;subst hvf
        go_wp2_with fail
        go_ret;exact⟨_,by rw[HE.out];rfl,by rw[HS2.out];exact HT9.out,hfar,HK9.out⟩
end Go.Proofs.YtibjkhepedfpiaaGreatDoor.TbP
namespace Go.Proofs.YtibjkhepedfpiaaGreatDoor.TbQ
open Go Go.RowKit Q Mem Rg Ap ApG St BiW Tab TlS Fl TbM TbN TbO TbP SeEq
set_option maxRecDepth 100000
theorem run_loadVar_part {P:Program} (w:World) (g o:Nat) (ty:TypeId) (cs:Array Value) (d:TypeDesc) (hc: ∀j v,cs.toList[j]? =some v→w.cell? ⟨g,o+j,none⟩=some v)
 (hu:P.underlying ty=some d) (hd:(match d with| .struct _| .array _ _=>true|_=>false)=true) (hi:(P.info? ty).map (·.size)=some cs.size):
 (loadVar ty ⟨g,o,none⟩).run P w= .ok (.agg cs) w:=by
 have hl:(loadCells ⟨g,o,none⟩ cs.toList.length).run P w= .ok cs.toList.toArray w:=
  run_loadCells_list (P:=P) w ⟨g,o,none⟩ cs.toList (fun j v hv=>by
   have hadd:(⟨g,o,none⟩:Addr).add j=⟨g,o+j,none⟩:=by unfold Addr.add;split<;>simp_all
   rw[hadd];exact hc j v hv)
 cases hq:P.info? ty with
 |none=>simp[hq]at hi
 |some i=>
  have hs:i.size=cs.size:=by simpa [hq]using hi
  have hagg:(isAgg ty).run P w= .ok true w:=by
   unfold isAgg;rw[Sem.run_bind,run_underlying hu w]
   cases d<;>simp_all
  simp only[Array.length_toList,Array.toArray_toList]at hl;simp[loadVar,Sem.run_bind,hagg,sizeOf,typeInfo,hq,hs,hl]
theorem wpList_load_part {P:Program} {ops:Array Oper} {rest:List Oper} {o:Oper} {a:Act} {w:World} {Q:Exit→Act→World→Prop} (hgd:o.guard=none) (ty:TypeId) (x:Operand) (ho:o.op= .load ty x)
 (g off:Nat) (hx:a.eval x= .pointer (some ⟨g,off,none⟩)) (cs:Array Value) (d:TypeDesc) (hc: ∀j v,cs.toList[j]? =some v→w.cell? ⟨g,off+j,none⟩=some v)
 (hu:P.underlying ty=some d) (hd:(match d with| .struct _| .array _ _=>true|_=>false)=true) (hi:(P.info? ty).map (·.size)=some cs.size)
 (h:wpList P ops Q rest (a.put o.dst (.agg cs)) w):wpList P ops Q (o::rest) a w:=by
 refine wpList_plain hgd fun _ hK=>?_;unfold Oper.wp execOp;simp only[ho,hx,Instr.loadAt,Instr.sureAddr,Sem.run_bind,Sem.run_pure,Result.andThen_ok,run_loadVar_part w g off ty cs d hc hu hd hi];exact hK _ _ h
def lostN (S:Tb) (r k:Nat):List Nat:=(List.range k).filter fun c=> !S.is (c*S.R+r)
def lostL (S:Tb) (r:Nat):List Nat:=lostN S r 255
def atI (S:Tb) (p:Int):Bool:=if 0≤p∧p<(191*S.R:Nat)then S.is p.toNat else false
end Go.Proofs.YtibjkhepedfpiaaGreatDoor.TbQ
namespace Go.Proofs.YtibjkhepedfpiaaGreatDoor.TbR
open Go Go.RowKit Q Mem Rg Ap ApG St BiW Tab TlS Fl TbM TbN TbO TbP SeEq
set_option maxRecDepth 100000
def parE (R:Nat) (n:Int) (s:ByteArray):Int:=if n<0∨64≤n then 15 else if s.size≠R then 12 else 0
def parS (S:Tb) (n:Int) (s:ByteArray):Tb:=if parE S.R n s≠0 then S else laid S ((191+n.toNat)*S.R) s s.size
set_option maxHeartbeats 1600000 in
theorem parity_any (w:World) (B gt gr:Nat) (v:Value) (S:Tb) (n:Int) (s:ByteArray) (h:TbIn w B gt gr v S) (hok:Ok S):
 Calls Tryz.prog 158 #[.pointer (some ⟨gt,0,none⟩),.int .i64 n,.string s] w fun e w'=>e= .returned (.int .i64 (parE S.R n s))∧TbIn w' B gt gr v (parS S n s)∧Kept (foot gt gr v) w w':=by
 have c0:=Blk.cell h.box 0 (v:= .slice (some ⟨gr,0,none⟩) S.R S.R) rfl;by_cases h0:n<0
 ·have t0:decide (n<0)=true:=decide_eq_true h0
  have HE:=Lib.hid (show parE S.R n s=15 from if_pos (Or.inl h0));have HS:=Lib.hid (show parS S n s=S from if_pos (by rw[HE.out];decide));clear h0 hok c0
  go_enter Tryz.func158,Tryz.ntmps158
  go_wp2_with fail
  go_ret;exact⟨by rw[HE.out];rfl,by rw[HS.out];exact h,Kept.refl _ _⟩
 ·have t0:decide (n<0)=false:=decide_eq_false h0
  by_cases h1:64≤n
  ·have t1:decide (64≤n)=true:=decide_eq_true h1
   have HE:=Lib.hid (show parE S.R n s=15 from if_pos (Or.inr h1));have HS:=Lib.hid (show parS S n s=S from if_pos (by rw[HE.out];decide));clear h0 h1 hok c0
   go_enter Tryz.func158,Tryz.ntmps158
   go_wp2_with fail
   go_ret;exact⟨by rw[HE.out];rfl,by rw[HS.out];exact h,Kept.refl _ _⟩
  ·have t1:decide (64≤n)=false:=decide_eq_false h1
   by_cases h2:s.size=S.R
   ·obtain⟨m,rfl⟩:=Int.eq_ofNat_of_zero_le (Int.not_lt.1 h0)
    have t2:(s.size==S.R)=true:=beq_iff_eq.2 h2;have HE:=Lib.hid (show parE S.R m s=0 from by unfold parE;rw[if_neg (by omega),if_neg (by simpa using h2)])
    have HS:=Lib.hid (show parS S m s=laid S ((191+m)*S.R) s S.R from by
     unfold parS;rw[HE.out,if_neg (by simp),h2];rfl)
    have hm:m<64:=by omega
    have HZ:=Lib.hid h2;obtain⟨R,hR⟩: ∃R,S.R=R:=⟨_,rfl⟩;have HR:=Lib.hid hR;have hR9:R≤1024:=by have:=hok.R;omega
    rw[hR]at c0 t2;have k0:(0:Int)≤(m:Int):=Int.natCast_nonneg _;have k1:(m:Int)≤64:=by omega
    have HH:=Lib.hid h;rw[hR]at HZ;clear h0 h1 h2 hok hR;have t3:((s.size:Int)==(R:Int))=true:=by rw[HZ.out];simp
    have t5:((s.size:Int)!=(R:Int))=false:=by rw[HZ.out];simp
    have t6:(s.size !=R)=false:=by rw[HZ.out];simp
    go_enter Tryz.func158,Tryz.ntmps158
    go_wp2_with fail
    go_loopw [32] (fun i wr=> ∃k:Nat,k≤R∧i= .int .i64 k∧Hid (TbIn wr B gt gr v (laid S ((191+m)*S.R) s k))∧Hid (Kept (foot gt gr v) w wr)) (fun i _=>R-(intOf i).toNat)
    case atStart=>exact⟨0,by omega,rfl,Lib.hid (by rw[laid_zero];exact h),Lib.hid (Kept.refl _ _)⟩
    case round=>
     obtain⟨k,hk,rfl,HT,HK⟩:=hrel;by_cases hkn:k<R
     ·have u0:decide (k<R)=true:=decide_eq_true hkn
      have hi: ∀V,(Instr.index 9 (.string s) (.int .i64 (k:Int))).run Tryz.prog V= .ok (.int .u8 ((sb s k).toNat:Int)) V:=fun V=>idx_at s k (by rw[HZ.out];exact hkn) V;have c1:=fun p=>Blk.cell (blk_ext HT.out.box p) 0 (v:= .slice (some ⟨gr,0,none⟩) S.R S.R) rfl;rw[HR.out]at c1;have q1:(0:Int)≤(k:Int):=Int.natCast_nonneg _;have q2:(k:Int)<(R:Int):=by omega
      go_wp2_with fail
      refine Go.Proofs.YtibjkhepedfpiaaGreatDoor.Q.region_ext_tail 11 (by kernel_rfl) (by kernel_rfl) ?_;simp only[List.take_succ_cons,List.take_zero,List.drop_succ_cons,List.drop_zero]
      repeat (go_big_quiet_step (fail))
      refine wpQuiet_nil ?_;rintro w9 ⟨pq,rfl⟩;have HT2:=Lib.hid (HT.out.below (below_ext wr pq));have HK2:=Lib.hid (HK.out.then ((below_ext wr pq).mono HK.out.size));have kst:=set_any (ext wr pq) B gt gr k (191+m) v (laid S ((191+m)*S.R) s k) (sb s k) HT2.out (by omega) (by show k<S.R;rw[HR.out];exact hkn);rw[show(laid S ((191+m)*S.R) s k).R=S.R from rfl,laid_step,show((191+m:Nat):Int)=191+(m:Int) by omega]at kst;clear c1 HT HK
      go_wp2_with fail
      (with_reducible refine(kst).mono ?_);rintro e3 W3 ⟨rfl,ht3,hk3⟩
      have HK3:=Lib.hid (HK2.out.trans hk3 (fun i _ e=>Or.inr (Or.inl e)));have HT3:=Lib.hid ht3;clear kst ht3 hk3 HT2 HK2
      go_wp2_with fail
      go_roundw
      case rel=>exact⟨k+1,by omega,by go_num,HT3,HK3⟩
      case measure=>simp[intOf];omega
     ·obtain rfl:k=R:=by omega
      have u0:decide (k<k)=false:=by simp
      go_wp2_with fail
      go_ret;exact⟨by rw[HE.out];rfl,by rw[HS.out,HR.out];have:=HT.out;rw[HR.out]at this;exact this,HK.out⟩
   ·have t2:(s.size==S.R)=false:=beq_eq_false_iff_ne.2 h2
    have t3:((s.size:Int)==(S.R:Int))=false:=beq_eq_false_iff_ne.2 (by omega);have HE:=Lib.hid (show parE S.R n s=12 from by unfold parE;rw[if_neg (by omega),if_pos h2]);have HS:=Lib.hid (show parS S n s=S from if_pos (by rw[HE.out];decide));obtain⟨R,hR⟩: ∃R,S.R=R:=⟨_,rfl⟩;rw[hR]at c0 t2 t3;clear h0 h1 h2 hok hR
    go_enter Tryz.func158,Tryz.ntmps158
    go_wp2_with fail
    go_ret;exact⟨by rw[HE.out];rfl,by rw[HS.out];exact h,Kept.refl _ _⟩
def padE (n:Int):Int:=if n<0∨191<n then 15 else 0
def padS (S:Tb) (n:Int):Tb:=if padE n≠0 then S else {S with is:=fun p=>if(191-n.toNat)*S.R≤p∧p<191*S.R then true else S.is p}
end Go.Proofs.YtibjkhepedfpiaaGreatDoor.TbR
namespace Go.Proofs.YtibjkhepedfpiaaGreatDoor.TbS
open Go Go.RowKit Q Mem Rg Ap ApG St BiW Tab TlS TbM TbN TbO TbP
set_option maxRecDepth 100000
end Go.Proofs.YtibjkhepedfpiaaGreatDoor.TbS
namespace Go.Proofs.YtibjkhepedfpiaaGreatDoor.TbSc
open Go TbS Go.RowKit Q Mem Rg Ap ApG St BiW Tab TlS TbM TbN TbO TbP
set_option maxRecDepth 100000
end Go.Proofs.YtibjkhepedfpiaaGreatDoor.TbSc
namespace Go.Proofs.YtibjkhepedfpiaaGreatDoor.TbT
open Go Go.RowKit Q Mem Rg Ap ApG St BiW BiG CrB DgB DgC TlS TbM TbN TbO TbP TbQ
set_option maxRecDepth 100000
def kn (S:Tb):Nat→Nat→Nat
 |_,0=>0
 |p,f+1=>if atI S p then kn S (p+1) f+1 else 0
theorem kn_in (S:Tb): ∀(f p:Nat),p+kn S p f≤191*S.R∨kn S p f=0
 |0,p=>Or.inr rfl
 |f+1,p=>by
  rw[kn]
  split
  ·rename_i h
   have hp:p<191*S.R:=by
    unfold atI at h
    split at h
    ·rename_i h1;omega
    ·cases h
   rcases kn_in S f (p+1)with h1|h1<;>omega
  ·exact Or.inr rfl
def bytesL (S:Tb) (p k:Nat):List UInt8:=(List.range k).map fun i=>S.b (p+i)
theorem bytesL_len (S:Tb) (p k:Nat):(bytesL S p k).length=k:=by simp[bytesL]
def knS (S:Tb) (p:Nat):ByteArray:=str (bytesL S p (kn S p 4080))
def fsN (s:ByteArray):Nat:=if pkE s=0∧(pkH s).length≤s.size∧dgE (s.extract 0 (pkH s).length.toNat)=0 then(pkH s).length.toNat else 0
theorem fsN_le (s:ByteArray):fsN s≤s.size:=by
 unfold fsN
 split
 ·rename_i h;omega
 ·omega
end Go.Proofs.YtibjkhepedfpiaaGreatDoor.TbT
namespace Go.Proofs.YtibjkhepedfpiaaGreatDoor.TbU
open Go Go.RowKit Q Mem Rg Ap ApG St BiW BiG CrB Scp DgB DgC TlS TbM TbN TbO TbP TbQ TbT
set_option maxRecDepth 100000
def nxt (S:Tb) (p:Nat):Option Nat:=(S.st.drop (below S.st (p+1))).head?
def dN (S:Tb) (p:Nat):Nat:=fsN (knS S p)
def outF (S:Tb):Nat→Nat→List (Nat×Nat)
 |0,_=>[]
 |f+1,p=>if 0<dN S p then(p,dN S p)::outF S f (p+dN S p)else match nxt S p with
  |some q=>outF S f q
  |none=>[]
def outAt (S:Tb) (p:Nat):List (Nat×Nat):=outF S (191*S.R+1-p) p
theorem kn_size (S:Tb) (p:Nat):(knS S p).size=kn S p 4080:=by unfold knS;rw[←bl_len,bl_str,bytesL_len]
theorem dN_in (S:Tb) (p:Nat) (hp:p≤191*S.R):p+dN S p≤191*S.R:=by
 have h1:=fsN_le (knS S p);rw[kn_size]at h1;unfold dN;rcases kn_in S 4080 p with h|h<;>omega
theorem below_le (L:List Nat) (p:Nat):below L p≤L.length:=List.countP_le_length
theorem nxt_mem {S:Tb} {p q:Nat} (h:nxt S p=some q):q∈S.st:=by
 unfold nxt at h;exact List.mem_of_mem_drop (List.mem_of_mem_head? h)
theorem drop_below {L:List Nat} (hs:L.Pairwise (· < ·)) (p:Nat): ∀z∈L.drop (below L p),p≤z:=by
 induction L with
 |nil=>intro z hz;simp at hz
 |cons x t ih=>
  intro z hz;have ht:=List.pairwise_cons.1 hs;unfold below at hz;rw[List.countP_cons]at hz;by_cases hx:x<p
  ·simp only[hx,decide_true,if_true,List.drop_succ_cons]at hz
   exact ih ht.2 z hz
  ·simp only[hx,decide_false,Bool.false_eq_true,if_false,Nat.add_zero]at hz
   have h0:t.countP (fun z=>decide (z<p))=0:=by
    rw[List.countP_eq_zero];intro y hy;have:=ht.1 y hy;simp;omega
   rw[h0,List.drop_zero]at hz;rcases List.mem_cons.1 hz with rfl|hz
   ·omega
   ·have:=ht.1 z hz;omega
theorem nxt_gt {S:Tb} {p q:Nat} (hs:S.st.Pairwise (· < ·)) (h:nxt S p=some q):p<q:=by
 unfold nxt at h;have:=drop_below hs (p+1) q (List.mem_of_mem_head? h);omega
theorem outF_same (S:Tb) (hok:Ok S): ∀(f f' p:Nat),p≤191*S.R→191*S.R+1-p≤f→191*S.R+1-p≤f'→outF S f p=outF S f' p
 |0,f',p,hp,h1,_=>by omega
 |f+1,0,p,hp,_,h2=>by omega
 |f+1,f'+1,p,hp,h1,h2=>by
  rw[outF,outF];by_cases hd:0<dN S p
  ·rw[if_pos hd,if_pos hd]
   have:=dN_in S p hp;rw[outF_same S hok f f' (p+dN S p) this (by omega) (by omega)]
  ·rw[if_neg hd,if_neg hd]
   cases hn:nxt S p with
   |none=>rfl
   |some q=>
    have h3:=nxt_gt hok.up hn;have h4:=hok.lt q (nxt_mem hn);exact outF_same S hok f f' q (by omega) (by omega) (by omega)
theorem outAt_yes {S:Tb} (hok:Ok S) {p:Nat} (hp:p≤191*S.R) (hd:0<dN S p):outAt S p=(p,dN S p)::outAt S (p+dN S p):=by
 unfold outAt;rw[show 191*S.R+1-p=(191*S.R-p)+1 by omega,outF,if_pos hd]
 congr 1
 have:=dN_in S p hp;exact outF_same S hok _ _ _ this (by omega) (by omega)
theorem outAt_next {S:Tb} (hok:Ok S) {p q:Nat} (hp:p≤191*S.R) (hd: ¬0<dN S p) (hn:nxt S p=some q):outAt S p=outAt S q:=by
 unfold outAt;rw[show 191*S.R+1-p=(191*S.R-p)+1 by omega,outF,if_neg hd,hn];have h3:=nxt_gt hok.up hn;have h4:=hok.lt q (nxt_mem hn);exact outF_same S hok _ _ _ (by omega) (by omega) (by omega)
theorem outAt_end {S:Tb} {p:Nat} (hp:p≤191*S.R) (hd: ¬0<dN S p) (hn:nxt S p=none):outAt S p=[]:=by
 unfold outAt;rw[show 191*S.R+1-p=(191*S.R-p)+1 by omega,outF,if_neg hd,hn]
def tm (a:Act) (k:Nat):Value:=a.tmps.getD k undef
def num (v:Value):Nat:=match v with| .int _ i=>i.toNat|_=>0
end Go.Proofs.YtibjkhepedfpiaaGreatDoor.TbU
