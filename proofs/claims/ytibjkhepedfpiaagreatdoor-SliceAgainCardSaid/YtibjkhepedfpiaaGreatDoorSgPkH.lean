import Derived.Shelf.Strings.Builder1
import Derived.Shelf.Strings.Repeat
import Derived.Test.YtibjkhepedfpiaaGreatDoorSgPkS
import Derived.Deep.RegionWith
namespace Go.Proofs.YtibjkhepedfpiaaGreatDoor.BlS
open Go.Shelf Go.RowKit
abbrev IsB:=Lib.IsBuilder 92 5
theorem sizeB:(Tryz.prog.info? 92).map (·.size)=some 2:=by kernel_rfl
theorem liesB:liesAt Tryz.prog Tryz.prog.depth 92 (2/Tryz.prog.cellsOf 92) 0 92 1=true:=by kernel_rfl
theorem infoByte:(Tryz.prog.info? 5).map (fun i=>(i.zero,i.size,i.bytes))=some (some (.int .u8 0),1,1):=by kernel_rfl
set_option maxHeartbeats 1000000 in
set_option maxRecDepth 100000 in
theorem cc_used (b:Nat) (w:World) (h0:w.cell? ⟨b,0,none⟩=some (.pointer (some ⟨b,0,none⟩))):
 Calls Tryz.prog 71 #[.pointer (some ⟨b,0,none⟩)] w fun e w'=>e= .returned (.tuple #[])∧w'=w:=by
 obtain⟨j,hj,_⟩:=Option.map_eq_some_iff.1 sizeB
 go_enter Tryz.func71,Tryz.ntmps71
 go_wp2
 rw[Lib.run_neq_ptr_same w _ Tryz.underlying89 hj]
 go_wp2
 go_end0
 exact⟨rfl,rfl⟩
set_option maxHeartbeats 1000000 in
set_option maxRecDepth 100000 in
theorem cc_fresh (b:Nat) (w:World) (h0:w.cell? ⟨b,0,none⟩=some (.pointer none)) (hsh:w.shape? b=some (92,2)) (hfz:w.frozen? ⟨b,0,none⟩=false):
 Calls Tryz.prog 71 #[.pointer (some ⟨b,0,none⟩)] w fun e w'=>e= .returned (.tuple #[])∧w'=w.setCell ⟨b,0,none⟩ (.pointer (some ⟨b,0,none⟩)):=by
 obtain⟨j,hj,hjs⟩:=Option.map_eq_some_iff.1 sizeB
 go_enter Tryz.func71,Tryz.ntmps71
 go_wp2
 rw[Lib.run_to_unsafe w ⟨b,0,none⟩ Tryz.underlying89 Tryz.underlying209 hj (by rw[hjs];decide) hsh (Nat.zero_lt_succ 1)];simp only[Result.andThen];rw[Oper.upon_value]
 go_wp2
 rw[run_callFunc_extern Tryz.func103 (by kernel_rfl) (by kernel_rfl) (by kernel_rfl) (e:=Extern.AbiNoEscape.same) (by kernel_rfl)];rw[Lib.run_noEscape];simp only[Result.andThen];rw[Oper.upon_value]
 go_wp2
 rw[Lib.run_from_unsafe w ⟨b,0,none⟩ Tryz.underlying209 Tryz.underlying89 hj hsh liesB];simp only[Result.andThen];rw[Oper.upon_value]
 go_wp2
 go_end0
 exact⟨rfl,rfl⟩
theorem cc_any (B b:Nat) (bs:List Value) (w:World) (h:IsB B b bs w):
 Calls Tryz.prog 71 #[.pointer (some ⟨b,0,none⟩)] w fun e w'=>e= .returned (.tuple #[])∧(Lib.BuilderAt 92 5 B b (.pointer (some ⟨b,0,none⟩)) bs w'∧Below B w w'):=by
 rcases h with h|h
 ·refine(cc_fresh b w h.cell0 h.shape h.frozen0).mono ?_
  rintro e w' ⟨rfl,rfl⟩;exact⟨rfl,h.used _,(Below.refl B w).setCell (p:=⟨b,0,none⟩) h.1 _⟩
 ·refine(cc_used b w h.cell0).mono ?_
  rintro e w' ⟨rfl,rfl⟩;exact⟨rfl,h,Below.refl B _⟩
set_option maxHeartbeats 2000000 in
set_option maxRecDepth 100000 in
theorem write_any (B b:Nat) (bs:List Value) (s:ByteArray) (w:World) (h:IsB B b bs w) (hlen:bs.length+s.size≤140737488355328) (hBw:B≤w.heap.size):
 Calls Tryz.prog 37 #[.pointer (some ⟨b,0,none⟩),.string s] w fun e w'=>e= .returned (.tuple #[.int .i64 s.size,.nilIface])∧(IsB B b (bs++Lib.strCells s) w'∧Below B w w'):=by
 obtain⟨i0,hi,hz0,hz1,hz2⟩:=info_parts infoByte
 go_enter Tryz.func37,Tryz.ntmps37
 go_wp2_with (go_at_call 71;refine(cc_any B b bs _ h).mono ?_)
 rintro e w1 ⟨rfl,h1,hb1⟩;obtain⟨hB,v,hbk,hown,hne⟩:=h1;have c0:w1.cell? ⟨b,0,none⟩=some (.pointer (some ⟨b,0,none⟩)):=by rw[Lib.cell_of_heap hbk];rfl
 have c1:w1.cell? ⟨b,1,none⟩=some v:=by rw[Lib.cell_of_heap hbk];rfl
 go_wp2_with (at_builtin;refine Lib.wpList_append_own_string _ rfl _ _ 90 9 rfl B 5 i0 Tryz.underlying90 Tryz.underlying9 hi hz0 hz1 hz2 _ _ _ rfl hown s rfl ?c3 ?c4 ?c5 ?_)
 case c3=>unfold maxLen;omega
 case c4=>omega
 case c5=>have:=hb1.size;omega
 intro v' w2 hown' hgrow _
 have hlt:b<w1.heap.size:=by
  rcases Nat.lt_or_ge b w1.heap.size with h'|h'
  ·exact h'
  ·simp[Array.getElem?_eq_none h']at hbk
 have hb2:w2.heap[b]? =some (.cells #[.pointer (some ⟨b,0,none⟩),v] 92 (0,0)):=by
  rw[hgrow.block b hlt (fun e=>hne e.symm)];exact hbk
 have d0:w2.cell? ⟨b,0,none⟩=some (.pointer (some ⟨b,0,none⟩)):=by rw[Lib.cell_of_heap hb2];rfl
 have d1:w2.cell? ⟨b,1,none⟩=some v:=by rw[Lib.cell_of_heap hb2];rfl
 have f1:w2.frozen? ⟨b,1,none⟩=false:=Lib.frozen_of_heap hb2 1
 obtain⟨ao,n',cap,rfl⟩: ∃ao n' cap,v'= .slice ao n' cap:=by
  rcases hown'.2 with⟨hv,_⟩|⟨g,cap,cur,hv,_⟩
  ·exact⟨_,_,_,hv⟩
  ·exact⟨_,_,_,hv⟩
 go_wp2
 go_ret2
 refine⟨rfl,Or.inr ?_,?_⟩
 ·exact Lib.BuilderAt.put (T:=92) (e:=5) hB hb2 (bs':=bs++Lib.strCells s) (by simpa [Lib.strCells_length]using hown') (by decide)
 ·exact(hb1.grown hgrow (by have:=hb1.size;omega) (fun k hk=>(hown.lt k hk).1)).setCell (p:=⟨b,1,none⟩) hB _
def ren:Ren:=⟨fun|169=>41|n=>n,fun|70=>89|9=>9|0=>0|72=>92|37=>90|127=>160|3=>3|5=>5|n=>n,fun|n=>n⟩
theorem lays169:Lays.n169 Tryz.prog ren:={
 mixed:=by kernel_rfl
 f169:=Tryz.func41.trans (congrArg some (by kernel_rfl))
 t0:=Tryz.underlying0
 a0:=Tryz.isAgg0
 z0:=Tryz.sizeOf0
 v0:=Tryz.zeroValue0
 t3:=Tryz.underlying3
 a3:=Tryz.isAgg3
 z3:=Tryz.sizeOf3
 v3:=Tryz.zeroValue3
 t9:=Tryz.underlying9
 a9:=Tryz.isAgg9
 z9:=Tryz.sizeOf9
 v9:=Tryz.zeroValue9
 t37:=Tryz.underlying90
 a37:=Tryz.isAgg90
 z37:=Tryz.sizeOf90
 v37:=Tryz.zeroValue90
 t70:=Tryz.underlying89
 a70:=Tryz.isAgg89
 z70:=Tryz.sizeOf89
 v70:=Tryz.zeroValue89
 t72:=Tryz.underlying92
 a72:=Tryz.isAgg92
 z72:=Tryz.sizeOf92
 v72:=Tryz.zeroValue92
 t127:=Tryz.underlying160
 a127:=Tryz.isAgg160
 z127:=Tryz.sizeOf160
 v127:=Tryz.zeroValue160}
theorem extra:Builder.Extra Tryz.prog ren:={
 sizeBuilder:=by kernel_rfl
 liesBuilder:=by kernel_rfl
 t5:=Tryz.underlying5
 a5:=Tryz.isAgg5
 z5:=Tryz.sizeOf5
 v5:=Tryz.zeroValue5
 infoByte:=by kernel_rfl
 cellsByte:=by kernel_rfl
 sizeByte:=by kernel_rfl
 neB5:=by decide}
theorem str_any (B b:Nat) (l:List UInt8) (w:World) (h:IsB B b (Lib.byteCells l) w) (hBw:B≤w.heap.size):
 Calls Tryz.prog 41 #[.pointer (some ⟨b,0,none⟩)] w fun e w'=>e= .returned (.string ⟨l.toArray⟩)∧Below B w w':=Any.Builder_String_any lays169 extra B b l w h hBw
theorem isb_below {B b:Nat} {bs:List Value} {w w':World} (h:IsB B b bs w) (hb:Below w.heap.size w w'):IsB B b bs w':=by
 have key: ∀p,Lib.BuilderAt 92 5 B b p bs w→Lib.BuilderAt 92 5 B b p bs w':=by
  rintro p ⟨hB,v,hbk,hown,hne⟩;have hlt:b<w.heap.size:=(Array.getElem?_eq_some_iff.1 hbk).1;refine⟨hB,v,(hb.block b hlt).trans hbk,hown.kept (Mem.only_of_below hb none) ?_,hne⟩
  cases h':v.ownBlock with
  |none=>exact Or.inl rfl
  |some r=>exact Or.inr (by simp)
 rcases h with h|h
 ·exact Or.inl (key _ h)
 ·exact Or.inr (key _ h)
theorem str_cells (s:ByteArray):Lib.strCells s=Lib.byteCells (St.bl s):=rfl
theorem cells_app (a b:List UInt8):Lib.byteCells a++Lib.byteCells b=Lib.byteCells (a++b):=by simp[Lib.byteCells]
end Go.Proofs.YtibjkhepedfpiaaGreatDoor.BlS
namespace Go.Proofs.YtibjkhepedfpiaaGreatDoor.PaR
open Go Go.Shelf Go.RowKit St BlS
def lays105_ren:Ren:=⟨fun|99=>110|105=>73|165=>111|166=>37|169=>41|170=>36|206=>142|212=>109|240=>71|241=>143|263=>140|264=>141|276=>103|277=>162|n=>n,fun|0=>0|3=>3|4=>4|5=>5|9=>9|20=>20|37=>90|46=>199|51=>207|53=>144|70=>89|72=>92|75=>96|76=>97|80=>99|109=>217|127=>160|146=>248|148=>250|164=>209|n=>n,fun|n=>n⟩
theorem lays105:Lays.n105 Tryz.prog lays105_ren:={
 mixed:=by kernel_rfl
 f99:=Tryz.func110.trans (congrArg some (by kernel_rfl))
 f105:=Tryz.func73.trans (congrArg some (by kernel_rfl))
 f165:=Tryz.func111.trans (congrArg some (by kernel_rfl))
 f166:=Tryz.func37.trans (congrArg some (by kernel_rfl))
 f169:=Tryz.func41.trans (congrArg some (by kernel_rfl))
 f170:=Tryz.func36.trans (congrArg some (by kernel_rfl))
 f206:=Tryz.func142.trans (congrArg some (by kernel_rfl))
 f212:=Tryz.func109.trans (congrArg some (by kernel_rfl))
 f240:=Tryz.func71.trans (congrArg some (by kernel_rfl))
 f241:=Tryz.func143.trans (congrArg some (by kernel_rfl))
 f263:=Tryz.func140.trans (congrArg some (by kernel_rfl))
 f264:=Tryz.func141.trans (congrArg some (by kernel_rfl))
 f276:=Tryz.func103.trans (congrArg some (by kernel_rfl))
 f277:=Tryz.func162.trans (congrArg some (by kernel_rfl))
 t0:=Tryz.underlying0
 a0:=Tryz.isAgg0
 z0:=Tryz.sizeOf0
 v0:=Tryz.zeroValue0
 t3:=Tryz.underlying3
 a3:=Tryz.isAgg3
 z3:=Tryz.sizeOf3
 v3:=Tryz.zeroValue3
 t4:=Tryz.underlying4
 a4:=Tryz.isAgg4
 z4:=Tryz.sizeOf4
 v4:=Tryz.zeroValue4
 t5:=Tryz.underlying5
 a5:=Tryz.isAgg5
 z5:=Tryz.sizeOf5
 v5:=Tryz.zeroValue5
 t9:=Tryz.underlying9
 a9:=Tryz.isAgg9
 z9:=Tryz.sizeOf9
 v9:=Tryz.zeroValue9
 t20:=Tryz.underlying20
 a20:=Tryz.isAgg20
 z20:=Tryz.sizeOf20
 v20:=Tryz.zeroValue20
 t37:=Tryz.underlying90
 a37:=Tryz.isAgg90
 z37:=Tryz.sizeOf90
 v37:=Tryz.zeroValue90
 t46:=Tryz.underlying199
 a46:=Tryz.isAgg199
 z46:=Tryz.sizeOf199
 v46:=Tryz.zeroValue199
 t51:=Tryz.underlying207
 a51:=Tryz.isAgg207
 z51:=Tryz.sizeOf207
 v51:=Tryz.zeroValue207
 t53:=Tryz.underlying144
 a53:=Tryz.isAgg144
 z53:=Tryz.sizeOf144
 v53:=Tryz.zeroValue144
 t70:=Tryz.underlying89
 a70:=Tryz.isAgg89
 z70:=Tryz.sizeOf89
 v70:=Tryz.zeroValue89
 t72:=Tryz.underlying92
 a72:=Tryz.isAgg92
 z72:=Tryz.sizeOf92
 v72:=Tryz.zeroValue92
 t75:=Tryz.underlying96
 a75:=Tryz.isAgg96
 z75:=Tryz.sizeOf96
 v75:=Tryz.zeroValue96
 t76:=Tryz.underlying97
 a76:=Tryz.isAgg97
 z76:=Tryz.sizeOf97
 v76:=Tryz.zeroValue97
 t109:=Tryz.underlying217
 a109:=Tryz.isAgg217
 z109:=Tryz.sizeOf217
 v109:=Tryz.zeroValue217
 t127:=Tryz.underlying160
 a127:=Tryz.isAgg160
 z127:=Tryz.sizeOf160
 v127:=Tryz.zeroValue160
 t146:=Tryz.underlying248
 a146:=Tryz.isAgg248
 z146:=Tryz.sizeOf248
 v146:=Tryz.zeroValue248
 t148:=Tryz.underlying250
 a148:=Tryz.isAgg250
 z148:=Tryz.sizeOf250
 v148:=Tryz.zeroValue250
 t164:=Tryz.underlying209
 a164:=Tryz.isAgg209
 z164:=Tryz.sizeOf209
 v164:=Tryz.zeroValue209}
theorem extra:Builder.Extra Tryz.prog lays105_ren:={
 sizeBuilder:=by kernel_rfl
 liesBuilder:=by kernel_rfl
 t5:=Tryz.underlying5
 a5:=Tryz.isAgg5
 z5:=Tryz.sizeOf5
 v5:=Tryz.zeroValue5
 infoByte:=by kernel_rfl
 cellsByte:=by kernel_rfl
 sizeByte:=by kernel_rfl
 neB5:=by decide}
theorem lays170:Lays.n170 Tryz.prog lays105_ren:={lays105 with}
theorem len_any (B b:Nat) (bs:List Value) (w:World) (h:IsB B b bs w):
 Calls Tryz.prog 36 #[.pointer (some ⟨b,0,none⟩)] w fun e w'=>e= .returned (.int .i64 bs.length)∧w'=w:=Any.Builder_Len lays170 B b bs w h
def ff (k:Nat):ByteArray:=str (List.replicate k 255)
theorem ff_any (k:Nat) (w:World) (hk:k≤140737488355328):
 Calls Tryz.prog 73 #[.string ⟨#[255]⟩,.int .i64 k] w fun e w'=>e= .returned (.string (ff k))∧Below w.heap.size w w':=by
 refine(Any.strings_Repeat lays105 extra ⟨#[255]⟩ k w (by omega) (by show 1*k≤_;omega)).mono fun e w' ⟨h1,h2⟩=>⟨?_,h2⟩;rw[h1];have:Lib.repeatL (ByteArray.mk #[255]).data.toList k=List.replicate k 255:=by simpa using Lib.repeatL_replicate 255 1 k
 rw[this];rfl
end Go.Proofs.YtibjkhepedfpiaaGreatDoor.PaR
namespace Go.Proofs.YtibjkhepedfpiaaGreatDoor.PaP
open Go St
def dr:Nat→Nat→List Nat→Nat×List Nat
 |d,r,[]=>(r-d,[])
 |d,r,x::t=>if d≤r then(r-d,x::t)else dr (d-r) x t
theorem dr_add (e:Nat): ∀(ls:List Nat) (d r:Nat),dr e (dr d r ls).1 (dr d r ls).2=dr (d+e) r ls
 |[],d,r=>by simp[dr];omega
 |x::t,d,r=>by
  rw[dr]
  split
  ·rename_i h
   rw[dr,dr];by_cases h2:e≤r-d
   ·rw[if_pos h2,if_pos (by omega)];congr 1;omega
   ·rw[if_neg h2,if_neg (by omega)];congr 1;omega
  ·rename_i h
   rw[dr_add e t,dr,if_neg (by omega)]
   congr 1
   omega
theorem dr_end: ∀(ls:List Nat) (d r:Nat),(∀x∈ls,0<x)→((dr d r ls).1=0∧(dr d r ls).2=[]↔r+ls.sum≤d)
 |[],d,r,_=>by simp[dr];omega
 |x::t,d,r,h=>by
  rw[dr];have hx:=h x (by simp)
  split
  ·rename_i hd
   simp;omega
  ·rename_i hd
   rw[dr_end t (d-r) x (fun y hy=>h y (by simp[hy]))];simp;omega
theorem dr_sum: ∀(ls:List Nat) (d r:Nat),(dr d r ls).1+(dr d r ls).2.sum=r+ls.sum-d
 |[],d,r=>by simp[dr]
 |x::t,d,r=>by
  rw[dr]
  split
  ·simp;omega
  ·have:=dr_sum t (d-r) x
   simp;omega
def fp (ls:List Nat) (p:Nat):Nat:=p+(if 184≤(dr p 0 ls).1 then 184 else 183)
def pos (ls:List Nat):Nat→Nat
 |0=>0
 |k+1=>fp ls (pos ls k)
theorem fp_ge (ls:List Nat) (p:Nat):p+183≤fp ls p∧fp ls p≤p+184:=by unfold fp;split<;>omega
theorem pos_ge (ls:List Nat): ∀k,183*k≤pos ls k∧pos ls k≤184*k
 |0=>by simp[pos]
 |k+1=>by have:=pos_ge ls k;have:=fp_ge ls (pos ls k);rw[pos];omega
def Steps (ls:List Nat) (K:Nat):Prop:=ls.sum≤pos ls K∧ ∀j,j<K→pos ls j<ls.sum
theorem Steps.unique {ls:List Nat} {K K':Nat} (h:Steps ls K) (h':Steps ls K'):K=K':=by
 rcases Nat.lt_trichotomy K K' with hl|he|hl
 ·have:=h'.2 K hl;have:=h.1;omega
 ·exact he
 ·have:=h.2 K' hl;have:=h'.1;omega
theorem Steps.le {ls:List Nat} {K k:Nat} (h:Steps ls K) (hk:ls.sum≤pos ls k):K≤k:=by
 rcases Nat.lt_or_ge k K with hl|hl
 ·have:=h.2 k hl;omega
 ·exact hl
theorem steps_ex (ls:List Nat): ∃K,Steps ls K:=by
 have key: ∀n k,k+n=ls.sum→(∀j,j<k→pos ls j<ls.sum)→ ∃K,Steps ls K:=by
  intro n
  induction n with
  |zero=>
   intro k hk h;exact⟨k,by have:=pos_ge ls k;omega,h⟩
  |succ n ih=>
   intro k hk h;by_cases hp:ls.sum≤pos ls k
   ·exact⟨k,hp,h⟩
   ·refine ih (k+1) (by omega) (fun j hj=>?_)
    rcases Nat.lt_or_ge j k with h1|h1
    ·exact h j h1
    ·obtain rfl:j=k:=by omega
     omega
 exact key ls.sum 0 (by omega) (fun j hj=>by omega)
noncomputable def nP (ls:List Nat):Nat:=Classical.choose (steps_ex ls)
theorem nP_steps (ls:List Nat):Steps ls (nP ls):=Classical.choose_spec (steps_ex ls)
theorem Steps.eq {ls:List Nat} {K:Nat} (h:Steps ls K):nP ls=K:=(nP_steps ls).unique h
theorem nP_le (ls:List Nat):nP ls≤ls.sum/183+1:=by
 rcases Nat.eq_zero_or_pos (nP ls)with h|h
 ·omega
 ·have:=(nP_steps ls).2 (nP ls-1) (by omega)
  have:=pos_ge ls (nP ls-1);omega
end Go.Proofs.YtibjkhepedfpiaaGreatDoor.PaP
namespace Go.Proofs.YtibjkhepedfpiaaGreatDoor.PaA
open Go Go.RowKit Q Mem St BiH SeG
def paE (t:ByteArray):Int:=if needE t≠0 then needE t else if t.size<needN t then 10 else if needN t<t.size then 11 else if at0 t 0=255 then 12 else 0
theorem paE_ok {t:ByteArray} (h:paE t=0):needE t=0∧needN t=t.size∧at0 t 0≠255∧3≤t.size:=by
 unfold paE at h;by_cases h1:needE t=0
 ·rw[if_neg (by simpa using h1)]at h
  split at h
  ·omega
  split at h
  ·omega
  split at h
  ·omega
  ·refine⟨h1,by omega,by assumption,?_⟩
   unfold needN at*;rw[if_pos h1]at*;omega
 ·rw[if_pos h1]at h
  exact absurd h h1
theorem needN_le (t:ByteArray):needN t≤4098:=by
 have:=at0_lt t 1;have:=at0_lt t 2;unfold needN nN
 split<;>omega
theorem needE_cases (t:ByteArray):needE t=0∨needE t=10∨needE t=12:=by unfold needE;split;simp;split<;>simp
theorem needN_pos {t:ByteArray} (h:needE t=0):3≤needN t:=by unfold needN;rw[if_pos h];omega
theorem first_ff (t:ByteArray) (h:1≤t.size):(t.extract 0 1).toList=[255]↔at0 t 0=255:=by
 rw[ByteArray.toList_eq]
 have e:(t.extract 0 1).data.toList=(bl t).take 1:=by
  simp[bl]
 rw[e];unfold at0;rw[←Array.getElem?_toList];have hl:1≤(bl t).length:=h;unfold bl at hl ⊢
 cases hd:t.data.toList with
 |nil=>rw[hd]at hl;simp at hl
 |cons x r=>
  simp;constructor
  ·rintro rfl;rfl
  ·intro h;exact UInt8.toNat_inj.1 h
set_option maxRecDepth 100000
theorem rcheck_any (t:ByteArray) (w:World):Calls Tryz.prog 68 #[.string t] w fun e w'=>e= .returned (.int .i64 (paE t))∧Below w.heap.size w w':=by
 have k:=fun V=>rneed_any t V;have hN:=needN_le t;have HC:=Lib.hid (needE_cases t);have HP:=Lib.hid (fun h=>needN_pos (t:=t) h);have hi:=fun(h:0<t.size) (V:World)=>(show(Instr.index 9 (.string t) (.int .i64 0)).run Tryz.prog V= .ok (.int .u8 (at0 t 0:Int)) V from idx_at t 0 h V);have HI:=Lib.hid hi;have HE:=Lib.hid (show paE t=if needE t≠0 then needE t else if t.size<needN t then 10 else if needN t<t.size then 11 else if at0 t 0=255 then 12 else 0 from rfl);obtain⟨E,hE⟩: ∃E,needE t=E:=⟨_,rfl⟩;obtain⟨N,hn⟩: ∃N,needN t=N:=⟨_,rfl⟩;rw[hE]at k HC HP HE;rw[hn]at k hN HP HE;clear hE hn hi;by_cases h0:E=0
 ·subst h0
  have hP:=HP.out rfl;by_cases h1:t.size<N
  ·have t1:decide ((t.size:Int)<(N:Int))=true:=by simp;omega
   have hR:paE t=10:=by rw[HE.out];simp[h1]
   rw[hR]
   go_enter Tryz.func68,Tryz.ntmps68
   go_wp2_with (go_at_call 101;refine(k _).mono ?_;rintro e w' ⟨rfl,hb⟩)
   go_ret;exact⟨rfl,hb⟩
  ·have t1:decide ((t.size:Int)<(N:Int))=false:=by simp;omega
   by_cases h2:N<t.size
   ·have t2:decide ((N:Int)<(t.size:Int))=true:=by simp;omega
    have hR:paE t=11:=by rw[HE.out];simp[h1,h2]
    rw[hR]
    go_enter Tryz.func68,Tryz.ntmps68
    go_wp2_with (go_at_call 101;refine(k _).mono ?_;rintro e w' ⟨rfl,hb⟩)
    go_ret;exact⟨rfl,hb⟩
   ·have t2:decide ((N:Int)<(t.size:Int))=false:=by simp;omega
    have i0:=HI.out (by omega);by_cases h3:at0 t 0=255
    ·have hR:paE t=12:=by rw[HE.out];simp[h1,h2,h3]
     rw[hR];rw[h3]at i0
     go_enter Tryz.func68,Tryz.ntmps68
     go_wp2_with (go_at_call 101;refine(k _).mono ?_;rintro e w' ⟨rfl,hb⟩)
     go_ret;exact⟨rfl,hb⟩
    ·have hR:paE t=0:=by rw[HE.out];simp[h1,h2,h3]
     rw[hR];have t3:((at0 t 0:Int)==255)=false:=by simp;omega
     go_enter Tryz.func68,Tryz.ntmps68
     go_wp2_with (go_at_call 101;refine(k _).mono ?_;rintro e w' ⟨rfl,hb⟩)
     go_ret;exact⟨rfl,hb⟩
 ·have hR:paE t=E:=by rw[HE.out];simp[h0]
  rw[hR];have t0:(E==0)=false:=by simpa using h0
  go_enter Tryz.func68,Tryz.ntmps68
  go_wp2_with (go_at_call 101;refine(k _).mono ?_;rintro e w' ⟨rfl,hb⟩)
  go_ret;exact⟨rfl,hb⟩
theorem check_any (t:ByteArray) (w:World) (hs:t.size≤1099511627776):Calls Tryz.prog 74 #[.string t] w fun e w'=>e= .returned (.int .i64 (paE t))∧Below w.heap.size w w':=by
 have k:=fun V=>need_any t V hs;have hN:=needN_le t;have HC:=Lib.hid (needE_cases t);have HP:=Lib.hid (fun h=>needN_pos (t:=t) h);have HF:=Lib.hid (first_ff t);have HE:=Lib.hid (show paE t=if needE t≠0 then needE t else if t.size<needN t then 10 else if needN t<t.size then 11 else if at0 t 0=255 then 12 else 0 from rfl);obtain⟨E,hE⟩: ∃E,needE t=E:=⟨_,rfl⟩;obtain⟨N,hn⟩: ∃N,needN t=N:=⟨_,rfl⟩;rw[hE]at k HC HP HE;rw[hn]at k hN HP HE;clear hE hn;by_cases h0:E=0
 ·subst h0
  have hP:=HP.out rfl;by_cases h1:t.size<N
  ·have t1:decide ((t.size:Int)<(N:Int))=true:=by simp;omega
   have hR:paE t=10:=by rw[HE.out];simp[h1]
   rw[hR]
   go_enter Tryz.func74,Tryz.ntmps74
   go_wp2_with (go_at_call 112;refine(k _).mono ?_;rintro e w' ⟨rfl,hb⟩)
   go_ret;exact⟨rfl,hb⟩
  ·have t1:decide ((t.size:Int)<(N:Int))=false:=by simp;omega
   by_cases h2:N<t.size
   ·have t2:decide ((N:Int)<(t.size:Int))=true:=by simp;omega
    have hR:paE t=11:=by rw[HE.out];simp[h1,h2]
    rw[hR]
    go_enter Tryz.func74,Tryz.ntmps74
    go_wp2_with (go_at_call 112;refine(k _).mono ?_;rintro e w' ⟨rfl,hb⟩)
    go_ret;exact⟨rfl,hb⟩
   ·have t2:decide ((N:Int)<(t.size:Int))=false:=by simp;omega
    have hle:(1:Int)≤(t.size:Int):=by omega
    have hff:=HF.out (by omega);by_cases h3:at0 t 0=255
    ·have hR:paE t=12:=by rw[HE.out];simp[h1,h2,h3]
     rw[hR];have t3:((t.extract 0 1).toList==[255])=true:=beq_iff_eq.2 (hff.2 h3);clear hff
     go_enter Tryz.func74,Tryz.ntmps74
     go_wp2_with (go_at_call 112;refine(k _).mono ?_;rintro e w' ⟨rfl,hb⟩)
     go_ret;exact⟨rfl,hb⟩
    ·have hR:paE t=0:=by rw[HE.out];simp[h1,h2,h3]
     rw[hR];have t3:((t.extract 0 1).toList==[255])=false:=beq_eq_false_iff_ne.2 (fun e=>h3 (hff.1 e));clear hff
     go_enter Tryz.func74,Tryz.ntmps74
     go_wp2_with (go_at_call 112;refine(k _).mono ?_;rintro e w' ⟨rfl,hb⟩)
     go_ret;exact⟨rfl,hb⟩
 ·have hR:paE t=E:=by rw[HE.out];simp[h0]
  rw[hR];have t0:(E==0)=false:=by simpa using h0
  go_enter Tryz.func74,Tryz.ntmps74
  go_wp2_with (go_at_call 112;refine(k _).mono ?_;rintro e w' ⟨rfl,hb⟩)
  go_ret;exact⟨rfl,hb⟩
end Go.Proofs.YtibjkhepedfpiaaGreatDoor.PaA
namespace Go.Proofs.YtibjkhepedfpiaaGreatDoor.PaT
open Go Go.RowKit Q Mem Rg Ap St CrB SeEq Scp BlS PaR PaA
theorem only_then {a b c:World} {B:Nat} {row:Option Nat} (h:a.grownBy b row) (k:Below B b c) (hB:a.heap.size≤B):a.grownBy c row:=
 ⟨k.os.trans h.os,k.tape.trans h.tape,k.output.trans h.output,Nat.le_trans h.size k.size,fun i hi hne=>(k.block i (by omega)).trans (h.block i hi hne)⟩
def drS:Nat→ByteArray→List ByteArray→ByteArray×List ByteArray
 |d,r,[]=>(r.extract d r.size,[])
 |d,r,x::t=>if d≤r.size then(r.extract d r.size,x::t)else drS (d-r.size) x t
def tkS:Nat→ByteArray→List ByteArray→List UInt8
 |n,r,[]=>(bl r).take n
 |n,r,x::t=>if n≤r.size then(bl r).take n else bl r++tkS (n-r.size) x t
theorem drS_nil' (m:Nat) (hm:0<m) (x:ByteArray) (t:List ByteArray):drS m nob (x::t)=drS m x t:=by
 rw[drS,if_neg (by show ¬m≤0;omega)];rfl
theorem tkS_nil' (m:Nat) (hm:0<m) (x:ByteArray) (t:List ByteArray):tkS m nob (x::t)=tkS m x t:=by
 rw[tkS,if_neg (by show ¬m≤0;omega)];rfl
theorem step_t {m k:Nat} {r:ByteArray} {l:List ByteArray} (hk:k=r.size) (hm:k<m) (hl:l≠[]):
 tkS m r l=(bl r).take k++tkS (m-k) (r.extract k r.size) l∧drS m r l=drS (m-k) (r.extract k r.size) l:=by
 cases l with
 |nil=>exact absurd rfl hl
 |cons x t=>
  have he:r.extract k r.size=nob:=bl_inj (by rw[ext_bl,show r.size-k=0 by omega];rfl);rw[he,tkS_nil' _ (by omega),drS_nil' _ (by omega),tkS,drS,if_neg (by omega),if_neg (by omega),List.take_of_length_le (by rw[bl_len];omega),hk];exact⟨rfl,rfl⟩
theorem drS_size: ∀(l:List ByteArray) (d:Nat) (r:ByteArray),((drS d r l).1.size,(drS d r l).2.map ByteArray.size)=PaP.dr d r.size (l.map ByteArray.size)
 |[],d,r=>by simp[drS,PaP.dr,ByteArray.size_extract]
 |x::t,d,r=>by
  rw[drS,List.map_cons,PaP.dr]
  split
  ·simp[ByteArray.size_extract]
  ·exact drS_size t (d-r.size) x
theorem drS_in {m:Nat} {r:ByteArray} (h:m≤r.size): ∀l,drS m r l=(r.extract m r.size,l)
 |[]=>rfl
 |x::t=>by rw[drS,if_pos h]
theorem tkS_in {m:Nat} {r:ByteArray} (h:m≤r.size): ∀l,tkS m r l=(bl r).take m
 |[]=>rfl
 |x::t=>by rw[tkS,if_pos h]
theorem isb_lt {B b:Nat} {bs:List Value} {w:World} (h:IsB B b bs w):b<w.heap.size:=by
 rcases h with h|h<;>
 ·obtain⟨hB,v,hbk,hown,hne⟩:=h
  exact(Array.getElem?_eq_some_iff.1 hbk).1
theorem isb_grown {B b g:Nat} {bs:List Value} {w w':World} (h:IsB B b bs w) (hg:w.grownBy w' (some g)) (hgB:g<B) (hbB:B≤b):IsB B b bs w':=by
 have key: ∀p,Lib.BuilderAt 92 5 B b p bs w→Lib.BuilderAt 92 5 B b p bs w':=by
  rintro p ⟨hB,v,hbk,hown,hne⟩;have hlt:b<w.heap.size:=(Array.getElem?_eq_some_iff.1 hbk).1;refine⟨hB,v,(hg.block b hlt (fun e=>by injection e with e;omega)).trans hbk,hown.kept hg ?_,hne⟩
  cases h':v.ownBlock with
  |none=>exact Or.inl rfl
  |some r=>
   have:=(hown.lt r h').1;exact Or.inr (fun e=>by injection e with e;omega)
 rcases h with h|h
 ·exact Or.inl (key _ h)
 ·exact Or.inr (key _ h)
structure Stm (w0 W:World) (g:Nat) (r:ByteArray) (l:List ByteArray) (a:Option Addr) (c:Nat):Prop where
 blk:Blk W g 157 #[.string r,.slice a l.length c]
 seq:Seq enS 1 w0 a l
 cap:l.length≤c
def mu (g:Nat) (W:World):Nat:=match W.cell? ⟨g,0,none⟩,W.cell? ⟨g,1,none⟩with
 |some (.string s),some (.slice _ n _)=>2*n+(if s.size=0 then 0 else 1)
 |_,_=>0
theorem mu_eq {w0 W:World} {g c:Nat} {r:ByteArray} {l:List ByteArray} {a:Option Addr} (h:Stm w0 W g r l a c):mu g W=2*l.length+(if r.size=0 then 0 else 1):=by
 unfold mu;rw[Blk.cell h.blk 0 (v:= .string r) rfl,Blk.cell h.blk 1 (v:= .slice a l.length c) rfl]
def tm (a:Act) (k:Nat):Value:=a.tmps.getD k undef
def frT (g:Nat) (n:Int) (b:Nat) (u:Nat→Value):Act:={tmps:= #[.pointer (some ⟨g,0,none⟩),.int .i64 n,u 2,u 3,.string nob,.pointer (some ⟨b,0,none⟩),u 6,u 7,u 8,u 9,u 10,u 11,u 12,u 13,u 14,u 15,u 16,u 17,u 18,u 19,u 20,u 21,u 22,u 23,u 24,u 25,u 26,u 27,u 28,u 29,u 30,u 31,u 32,u 33,u 34,u 35,u 36,u 37,u 38,u 39,u 40,u 41,u 42,u 43,u 44,u 45,u 46,u 47,u 48,u 49,u 50,u 51,u 52,u 53,u 54,u 55,u 56,u 57,u 58,u 59,u 60,u 61,u 62,u 63,u 64,u 65,u 66,u 67,u 68,u 69,u 70,u 71,u 72,u 73,u 74,u 75,u 76,u 77,u 78,u 79,u 80],defers:=[]}
def J0 (w0 w:World) (g:Nat) (n:Nat) (r0:ByteArray) (l0:List ByteArray) (a:Act) (W:World):Prop:=
 ∃(u:Nat→Value) (r:ByteArray) (l:List ByteArray) (s:Option Addr) (c:Nat) (acc:List UInt8),a=frT g n w.heap.size u∧Stm w0 W g r l s c∧IsB w.heap.size w.heap.size (Lib.byteCells acc) W∧w.grownBy W (some g)∧w.heap.size<W.heap.size∧
  acc.length<n∧acc++tkS (n-acc.length) r l=tkS n r0 l0∧drS (n-acc.length) r l=drS n r0 l0
theorem j0_intro {w0 w W:World} {g n:Nat} {r0 r:ByteArray} {l0 l:List ByteArray} {a:Act} {s:Option Addr} {c:Nat} {acc:List UInt8} (h:a=frT g n w.heap.size (tm a)) (hS:Stm w0 W g r l s c) (hB:IsB w.heap.size w.heap.size (Lib.byteCells acc) W) (hgr:w.grownBy W (some g)) (hlt:w.heap.size<W.heap.size)
 (h1:acc.length<n) (h2:acc++tkS (n-acc.length) r l=tkS n r0 l0) (h3:drS (n-acc.length) r l=drS n r0 l0):J0 w0 w g n r0 l0 a W:=⟨tm a,r,l,s,c,acc,h,hS,hB,hgr,hlt,h1,h2,h3⟩
theorem slice_one (V:World) (b0 o0 m c1:Nat):(Instr.slice 34 (.slice (some ⟨b0,o0,none⟩) (m+1) c1) (some (.int .i64 1)) none none).run Tryz.prog V= .ok (.slice (if c1=1 then some ⟨b0,o0,none⟩else some ⟨b0,o0+1,none⟩) m (c1-1)) V:=by
 have hl:Tryz.prog.underlying 34=some (.slice (Tryz.prog.elem 34)):=by kernel_rfl
 have h1:=run_slice_l (P:=Tryz.prog) (w:=V) (t:=34) (a:=some ⟨b0,o0,none⟩) (len:=m+1) (cap:=c1) (ht:=hl) (kl:= .i64) (l:=1) (h0:=by decide) (h1:=by omega);rw[h1,show Tryz.prog.elem 34=9 by kernel_rfl,Tryz.sizeOf9];simp[Result.andThen,sliced,Addr.add]
theorem any_gen {F:World→Prop} {w:World} (S:World→Prop) (hS:S w) (h: ∀V,S V→F V):F w:=h w hS
set_option maxRecDepth 100000
set_option maxHeartbeats 3200000 in
theorem take_any (w0 w:World) (g n:Nat) (r:ByteArray) (l:List ByteArray) (a:Option Addr) (c:Nat) (hS:Stm w0 w g r l a c) (hb:Below w0.heap.size w0 w) (hg:w0.heap.size≤g) (hn:0<n) (hn2:n≤1000):
 Calls Tryz.prog 113 #[.pointer (some ⟨g,0,none⟩),.int .i64 n] w fun e w'=>e= .returned (.string (St.str (tkS n r l)))∧(∃a' c',Stm w0 w' g (drS n r l).1 (drS n r l).2 a' c')∧w.grownBy w' (some g):=by
 have HS:=Lib.hid hS;have hgw:g<w.heap.size:=hS.blk.lt;clear hS;obtain⟨R,hR⟩: ∃R:Ending→World→Prop,R=(fun e w'=>e= .returned (.string (St.str (tkS n r l)))∧(∃a' c',Stm w0 w' g (drS n r l).1 (drS n r l).2 a' c')∧w.grownBy w' (some g)):=⟨_,rfl⟩;rw[←hR];have HR:=Lib.hid hR;clear hR
 go_enter Tryz.func113,Tryz.ntmps113
 go_wp2_with fail
 refine wp_scope_one 0 (J0 w0 w g n r l) (fun _ W=>mu g W) rfl ?_ ?_
 ·rintro a1 W ⟨u,r1,l1,s1,c1,acc,rfl,hS1,hB,hgr,hlt,hacc,ht,hd⟩
  have HT:=Lib.hid (And.intro ht hd);have hmu:=mu_eq hS1;have e0:=Blk.cell hS1.blk 0 (v:= .string r1) rfl;have e1:=Blk.cell hS1.blk 1 (v:= .slice s1 l1.length c1) rfl;have f0:=Blk.frozen hS1.blk 0;have f1:=Blk.frozen hS1.blk 1;unfold frT;clear ht hd;by_cases h0:r1.size=0
  ·have t0:r1.toList.isEmpty=true:=by rw[isEmpty_iff];simpa using h0
   by_cases hl8:l1.length=0
   ·have t1:decide (0<l1.length)=false:=decide_eq_false (by omega)
    have HMU:=Lib.hid (show l1.length≠0→2*l1.length<mu g W from fun h=>absurd hl8 h);clear hmu hl8 h0;have hcl:(Lib.byteCells acc).length=acc.length:=by simp[Lib.byteCells]
    have kl: ∀p,Calls Tryz.prog 36 #[.pointer (some ⟨w.heap.size,0,none⟩)] (ext W p) fun e w'=>e= .returned (.int .i64 (acc.length:Int))∧ext W p=w':=fun p=>
     (len_any w.heap.size w.heap.size (Lib.byteCells acc) (ext W p) (isb_below hB (below_ext _ p))).mono fun e w' ⟨h1,h2⟩=>⟨by rw[h1,hcl],h2.symm⟩
    obtain⟨m,hm⟩: ∃m,n=acc.length+m:=⟨n-acc.length,by omega⟩;obtain⟨A,hA⟩: ∃A,acc.length=A:=⟨_,rfl⟩;rw[hA]at kl hm hacc HT;obtain⟨k,hk⟩: ∃k,min m r1.size=k:=⟨_,rfl⟩;have hnm:(n:Int)-(A:Int)=(m:Int):=by omega
    have hmn: ∀(ts:Array TypeId) (ty:TypeId) (V:World),(Builtin.min_ ts ty #[.int .i64 ((n:Int)-(A:Int)),.int .i64 (r1.size:Int)]).run Tryz.prog V= .ok (.int .i64 (k:Int)) V:=fun ts ty V=>by
     rw[run_min_int2,hnm]
     congr 2
     split<;>omega
    have x0:=fun pX=>Blk.cell (blk_ext (hS1.blk) pX) 0 (v:= .string r1) rfl;have x1:=fun pX=>Blk.cell (blk_ext (hS1.blk) pX) 1 (v:= .slice s1 l1.length c1) rfl;have n1:(n:Int)≤1000:=by omega
    have n2:(A:Int)<(n:Int):=by omega
    have n3:(0:Int)≤(A:Int):=by omega
    have n4:(0:Int)≤(n:Int):=by omega
    have HK:=Lib.hid hk;have HM:=Lib.hid (And.intro hm (And.intro hA hcl));clear hk hm hA hcl hnm
    go_wp2_with fail
    refine Go.Proofs.YtibjkhepedfpiaaGreatDoor.Q.region_ext (by kernel_rfl) (by kernel_rfl) ?_
    repeat (go_big_quiet_step ((go_at_call 36;refine ext_call_same (kl _))))
    refine wpQuiet_nil ?_;rintro w9 ⟨pq,rfl⟩;clear hmn
    try clear t1
    have hkr:k≤r1.size:=by have:=HK.out;omega
    have hkm:k≤m:=by have:=HK.out;omega
    have hks:(r1.extract 0 k).size=k:=by rw[ext_size _ hkr];omega
    have hxk:bl (r1.extract 0 k)=(bl r1).take k:=by rw[ext_bl];simp
    have n5:(k:Int)≤(r1.size:Int):=by omega
    have n6:(0:Int)≤(k:Int):=by omega
    have kw:=write_any w.heap.size w.heap.size (Lib.byteCells acc) (r1.extract 0 k) (ext W pq) (isb_below hB (below_ext _ pq)) (by have:=HM.out.1;rw[HM.out.2.2,HM.out.2.1,hks];omega) (by have:=(below_ext W pq).size;omega);rw[str_cells,cells_app,hxk]at kw;have hbx:=below_ext W pq
    go_wp2_with fail
    (with_reducible refine(kw).mono ?_);rintro e W1 ⟨rfl,hB1,hb1⟩
    have hbE:Below w.heap.size W W1:=(hbx.mono (by omega)).trans hb1;have hbl1:=Blk.below hS1.blk hbE hgw;have hgr1:w.grownBy W1 (some g):=only_then hgr hbE (Nat.le_refl _);have y0:=Blk.cell hbl1 0 (v:= .string r1) rfl;have y1:=Blk.cell hbl1 1 (v:= .slice s1 l1.length c1) rfl;have g0:=Blk.frozen hbl1 0;have hbl2:=Blk.set_ hbl1 0 (.string (r1.extract k r1.size));have z0:=Blk.cell hbl2 0 (v:= .string (r1.extract k r1.size)) rfl;have z1:=Blk.cell hbl2 1 (v:= .slice s1 l1.length c1) rfl;have hB2:=isb_grown hB1 (only_set (only_refl W1 (some g)) 0 (.string (r1.extract k r1.size))) hgw (Nat.le_refl _);have hsz2:w.heap.size≤(W1.setCell ⟨g,0,none⟩ (.string (r1.extract k r1.size))).heap.size:=by simp;exact hgr1.size
    have hS9:=hS1.seq;have hC9:=hS1.cap;have hal:(acc++(bl r1).take k).length=A+k:=by rw[List.length_append,HM.out.2.1,List.length_take,bl_len,Nat.min_eq_left hkr]
    have hre:(r1.extract k r1.size).size=r1.size-k:=by rw[ByteArray.size_extract];omega
    clear kw kl x0 x1 hks hbx hbE hb1;by_cases hm1:r1.size=k
    ·have t8:(r1.extract k r1.size).toList.isEmpty=true:=by rw[isEmpty_iff,hre];simp;omega
     by_cases hl9:l1.length=0
     ·have t9:decide (0<l1.length)=false:=decide_eq_false (by omega)
      have hl0:l1=[]:=List.length_eq_zero_iff.1 hl9
      have HX:=Lib.hid (show tkS m r1 l1=(bl r1).take k∧drS m r1 l1=(r1.extract k r1.size,l1)from by
       rw[hl0];refine⟨?_,?_⟩
       ·rw[tkS,List.take_of_length_le (by rw[bl_len];omega),List.take_of_length_le (by rw[bl_len];omega)]
       ·rw[drS]
        refine congrArg (fun x=>(x,[])) (bl_inj ?_);rw[ext_bl,ext_bl,show r1.size-m=0 by omega,show r1.size-k=0 by omega,List.take_zero,List.take_zero])
      clear hl0 hre hal hm1;have ks:=str_any w.heap.size w.heap.size (acc++(bl r1).take k) _ hB2 hsz2
      go_wp2_with fail
      (with_reducible refine(ks).mono ?_);rintro e W3 ⟨rfl,hb3⟩
      go_wp2_with fail
      rw[HR.out];have h1:=HT.out.1;have h2:=HT.out.2;rw[show n-A=m by have:=HM.out.1;omega]at h1 h2;rw[HX.out.1]at h1;rw[HX.out.2]at h2;refine⟨?_,⟨s1,c1,?_⟩,only_then (only_set hgr1 0 _) hb3 (Nat.le_refl _)⟩
      ·rw[←h1];rfl
      ·rw[←h2];exact⟨Blk.below hbl2 hb3 hgw,hS9,hC9⟩
     ·have t9:decide (0<l1.length)=true:=decide_eq_true (by omega)
      obtain⟨Z,hZ⟩: ∃Z,A+k=Z:=⟨_,rfl⟩;have HZ:=Lib.hid (show(A+k=Z)∧(acc++(bl r1).take k).length=A+k∧(r1.extract k r1.size).size=0 from⟨hZ,hal,by omega⟩);have kl2:=len_any w.heap.size w.heap.size _ _ hB2;rw[show(Lib.byteCells (acc++(bl r1).take k)).length=Z by rw[Lib.byteCells,List.length_map,hal,hZ]]at kl2;clear hZ;by_cases hm2:k<m
      ·have t10:decide (Z<n)=true:=decide_eq_true (by have:=HM.out.1;have:=HZ.out.1;omega)
       have hk9:k=r1.size:=hm1.symm;have HK9:=Lib.hid hk9;clear hre hal hm1 hk9
       go_wp2_with fail
       (with_reducible refine(kl2).mono ?_);rintro e W9 ⟨rfl,rfl⟩
       go_wp2_with fail
       go_step3
       have hst:=step_t (l:=l1) HK9.out hm2 (fun e=>hl9 (by rw[e];rfl));have hS2:Stm w0 (W1.setCell ⟨g,0,none⟩ (.string (r1.extract k r1.size))) g (r1.extract k r1.size) l1 s1 c1:=⟨hbl2,hS9,hC9⟩;refine⟨rfl,j0_intro (r:=r1.extract k r1.size) (l:=l1) (by kernel_rfl) hS2 hB2 (only_set hgr1 0 _) ?_ ?_ ?_ ?_,?_⟩
       ·exact isb_lt hB2
       ·rw[HZ.out.2.1,HZ.out.1];have:=HM.out.1;have:=HZ.out.1;omega
       ·rw[HZ.out.2.1,HZ.out.1,←HT.out.1,show n-A=m by have:=HM.out.1;omega,hst.1,List.append_assoc,show n-Z=m-k by have:=HM.out.1;have:=HZ.out.1;omega]
       ·rw[HZ.out.2.1,HZ.out.1,←HT.out.2,show n-A=m by have:=HM.out.1;omega,hst.2,show n-Z=m-k by have:=HM.out.1;have:=HZ.out.1;omega]
       ·rw[mu_eq hS2,if_pos HZ.out.2.2]
        exact HMU.out hl9
      ·have t10:decide (Z<n)=false:=decide_eq_false (by have:=HM.out.1;have:=HZ.out.1;omega)
       have HX:=Lib.hid (show tkS m r1 l1=(bl r1).take k∧drS m r1 l1=(r1.extract k r1.size,l1)from by
        rw[show k=m by omega];exact⟨tkS_in (by omega) _,drS_in (by omega) _⟩)
       clear hre hal hm1
       go_wp2_with fail
       (with_reducible refine(kl2).mono ?_);rintro e W9 ⟨rfl,rfl⟩
       have ks:=str_any w.heap.size w.heap.size (acc++(bl r1).take k) _ hB2 hsz2
       go_wp2_with fail
       (with_reducible refine(ks).mono ?_);rintro e W3 ⟨rfl,hb3⟩
       go_wp2_with fail
       rw[HR.out];have h1:=HT.out.1;have h2:=HT.out.2;rw[show n-A=m by have:=HM.out.1;omega]at h1 h2;rw[HX.out.1]at h1;rw[HX.out.2]at h2;refine⟨?_,⟨s1,c1,?_⟩,only_then (only_set hgr1 0 _) hb3 (Nat.le_refl _)⟩
       ·rw[←h1];rfl
       ·rw[←h2];exact⟨Blk.below hbl2 hb3 hgw,hS9,hC9⟩
    ·have t8:(r1.extract k r1.size).toList.isEmpty=false:=by rw[isEmpty_iff,hre];simp;omega
     have HX:=Lib.hid (show tkS m r1 l1=(bl r1).take k∧drS m r1 l1=(r1.extract k r1.size,l1)from by
      rw[show k=m by have:=HK.out;omega];exact⟨tkS_in (by have:=HK.out;omega) _,drS_in (by have:=HK.out;omega) _⟩)
     clear hre hal;have ks:=str_any w.heap.size w.heap.size (acc++(bl r1).take k) _ hB2 hsz2
     go_wp2_with fail
     (with_reducible refine(ks).mono ?_);rintro e W3 ⟨rfl,hb3⟩
     go_wp2_with fail
     rw[HR.out];have h1:=HT.out.1;have h2:=HT.out.2;rw[show n-A=m by have:=HM.out.1;omega]at h1 h2;rw[HX.out.1]at h1;rw[HX.out.2]at h2;refine⟨?_,⟨s1,c1,?_⟩,only_then (only_set hgr1 0 _) hb3 (Nat.le_refl _)⟩
     ·rw[←h1];rfl
     ·rw[←h2];exact⟨Blk.below hbl2 hb3 hgw,hS9,hC9⟩
   ·have t1:decide (0<l1.length)=true:=decide_eq_true (by omega)
    obtain⟨x,t,rfl⟩: ∃x t,l1=x::t:=by
     cases l1 with
     |nil=>exact absurd rfl hl8
     |cons x t=>exact⟨x,t,rfl⟩
    obtain⟨b0,o0,rfl,hlt0,hc0⟩:=(hS1.seq.below (Nat.le_refl _) (hb.trans (below_of_only hgr (by have:=hb.size;omega) (fun k hk=>by injection hk with hk;omega)))) 0 x rfl;have q0:W.drew.cell? ⟨b0,o0,none⟩=some (.string x):=hc0 0 _ rfl;have hc1:t.length+1≤c1:=hS1.cap;obtain⟨s2,hs2⟩: ∃s2:Option Addr,(if c1=1 then some (⟨b0,o0,none⟩:Addr)else some ⟨b0,o0+1,none⟩)=s2:=⟨_,rfl⟩
    have hsl: ∀V,(Instr.slice 34 (.slice (some ⟨b0,o0,none⟩) (t.length+1) c1) (some (.int .i64 1)) none none).run Tryz.prog V= .ok (.slice s2 t.length (c1-1)) V:=fun V=>by
     rw[←hs2];exact slice_one V b0 o0 t.length c1
    have hS3:Seq enS 1 w0 s2 t:=fun i y hi=>by
     obtain⟨b1,o1,e1,hlt1,hc⟩:=hS1.seq (i+1) y hi;injection e1 with e1
     injection e1 with e1 e2 _
     subst e1 e2
     have hne: ¬c1=1:=fun e=>by
      have:=(List.getElem?_eq_some_iff.1 hi).1;omega
     refine⟨b0,o0+1,by rw[←hs2,if_neg hne],hlt1,fun j u hj=>?_⟩;have:=hc j u hj;rw[show o0+off 1 (i+1)+j=o0+1+off 1 i+j by unfold off;simp;omega]at this;exact this
    have k0:(0:Int)<((t.length:Int)+1):=by omega
    have hD:=Blk.drew hS1.blk;have d0:=Blk.cell hD 0 (v:= .string r1) rfl;have d1:=Blk.cell hD 1 (v:= .slice (some ⟨b0,o0,none⟩) (t.length+1) c1) rfl;have g0:=Blk.frozen hD 0;have g1:=Blk.frozen hD 1;have hD1:=Blk.set_ hD 0 (.string x);have p1:=Blk.cell hD1 1 (v:= .slice (some ⟨b0,o0,none⟩) (t.length+1) c1) rfl;have p2:=Blk.frozen hD1 1;have hD2:=Blk.set_ hD 1 (.slice s2 t.length (c1-1));have p3:=Blk.cell hD2 0 (v:= .string r1) rfl;have p4:=Blk.frozen hD2 0;have HS1:=Lib.hid hS1;have hD9:=Lib.hid (Blk.set_ (Blk.set_ hS1.blk 0 (.string x)) 1 (.slice s2 t.length (c1-1)));have hr1:r1=nob:=bl_inj (List.eq_nil_of_length_eq_zero h0)
    have HT2:=Lib.hid (show acc++tkS (n-acc.length) x t=tkS n r l∧drS (n-acc.length) x t=drS n r l from by
     have h1:=HT.out.1;have h2:=HT.out.2;rw[hr1,tkS_nil' _ (by omega)]at h1;rw[hr1,drS_nil' _ (by omega)]at h2;exact⟨h1,h2⟩)
    have HMU:=Lib.hid (show t.length≠0→2*t.length<mu g W from fun _=>by rw[hmu];simp;omega);clear hc0 hS1 hmu hl8 h0 hr1 HT
    go_wp2_with fail
    go_region
    have hB7:=isb_grown hB (only_set (only_set (only_refl W (some g)) 0 (.string x)) 1 (.slice s2 t.length (c1-1))) hgw (Nat.le_refl _);refine any_gen (F:=fun V=>Exit.then _ _ Exit.normal _ V) (fun V=>Stm w0 V g x t s2 (c1-1)∧IsB w.heap.size w.heap.size (Lib.byteCells acc) V∧w.grownBy V (some g)∧w.heap.size<V.heap.size) ⟨⟨hD9.out,hS3,by omega⟩,isb_below hB7 (below_drewN (Below.refl _ _) 1),only_drew (only_set (only_set hgr 0 _) 1 _),by simp;exact hlt⟩ ?_;rintro W5 ⟨hS5,hB5,hgr5,hlt5⟩;clear hS3 hB7 hB hgr hlt t0 t1 hD9 hsl hs2 e0 e1 f0 f1;have HT:=Lib.hid HT2.out;clear HT2;have hcl:(Lib.byteCells acc).length=acc.length:=by simp[Lib.byteCells]
    have kl: ∀p,Calls Tryz.prog 36 #[.pointer (some ⟨w.heap.size,0,none⟩)] (ext W5 p) fun e w'=>e= .returned (.int .i64 (acc.length:Int))∧ext W5 p=w':=fun p=>
     (len_any w.heap.size w.heap.size (Lib.byteCells acc) (ext W5 p) (isb_below hB5 (below_ext _ p))).mono fun e w' ⟨h1,h2⟩=>⟨by rw[h1,hcl],h2.symm⟩
    obtain⟨m,hm⟩: ∃m,n=acc.length+m:=⟨n-acc.length,by omega⟩;obtain⟨A,hA⟩: ∃A,acc.length=A:=⟨_,rfl⟩;rw[hA]at kl hm hacc HT;obtain⟨k,hk⟩: ∃k,min m x.size=k:=⟨_,rfl⟩;have hnm:(n:Int)-(A:Int)=(m:Int):=by omega
    have hmn: ∀(ts:Array TypeId) (ty:TypeId) (V:World),(Builtin.min_ ts ty #[.int .i64 ((n:Int)-(A:Int)),.int .i64 (x.size:Int)]).run Tryz.prog V= .ok (.int .i64 (k:Int)) V:=fun ts ty V=>by
     rw[run_min_int2,hnm]
     congr 2
     split<;>omega
    have x0:=fun pX=>Blk.cell (blk_ext (hS5.blk) pX) 0 (v:= .string x) rfl;have x1:=fun pX=>Blk.cell (blk_ext (hS5.blk) pX) 1 (v:= .slice s2 t.length (c1-1)) rfl;have n1:(n:Int)≤1000:=by omega
    have n2:(A:Int)<(n:Int):=by omega
    have n3:(0:Int)≤(A:Int):=by omega
    have n4:(0:Int)≤(n:Int):=by omega
    have HK:=Lib.hid hk;have HM:=Lib.hid (And.intro hm (And.intro hA hcl));clear hk hm hA hcl hnm
    go_wp2_with fail
    refine Go.Proofs.YtibjkhepedfpiaaGreatDoor.Q.region_ext (by kernel_rfl) (by kernel_rfl) ?_
    repeat (go_big_quiet_step ((go_at_call 36;refine ext_call_same (kl _))))
    refine wpQuiet_nil ?_;rintro w9 ⟨pq,rfl⟩;clear hmn
    try clear t1
    have hkr:k≤x.size:=by have:=HK.out;omega
    have hkm:k≤m:=by have:=HK.out;omega
    have hks:(x.extract 0 k).size=k:=by rw[ext_size _ hkr];omega
    have hxk:bl (x.extract 0 k)=(bl x).take k:=by rw[ext_bl];simp
    have n5:(k:Int)≤(x.size:Int):=by omega
    have n6:(0:Int)≤(k:Int):=by omega
    have kw:=write_any w.heap.size w.heap.size (Lib.byteCells acc) (x.extract 0 k) (ext W5 pq) (isb_below hB5 (below_ext _ pq)) (by have:=HM.out.1;rw[HM.out.2.2,HM.out.2.1,hks];omega) (by have:=(below_ext W5 pq).size;omega);rw[str_cells,cells_app,hxk]at kw;have hbx:=below_ext W5 pq
    go_wp2_with fail
    (with_reducible refine(kw).mono ?_);rintro e W1 ⟨rfl,hB1,hb1⟩
    have hbE:Below w.heap.size W5 W1:=(hbx.mono (by omega)).trans hb1;have hbl1:=Blk.below hS5.blk hbE hgw;have hgr1:w.grownBy W1 (some g):=only_then hgr5 hbE (Nat.le_refl _);have y0:=Blk.cell hbl1 0 (v:= .string x) rfl;have y1:=Blk.cell hbl1 1 (v:= .slice s2 t.length (c1-1)) rfl;have g0:=Blk.frozen hbl1 0;have hbl2:=Blk.set_ hbl1 0 (.string (x.extract k x.size));have z0:=Blk.cell hbl2 0 (v:= .string (x.extract k x.size)) rfl;have z1:=Blk.cell hbl2 1 (v:= .slice s2 t.length (c1-1)) rfl;have hB2:=isb_grown hB1 (only_set (only_refl W1 (some g)) 0 (.string (x.extract k x.size))) hgw (Nat.le_refl _);have hsz2:w.heap.size≤(W1.setCell ⟨g,0,none⟩ (.string (x.extract k x.size))).heap.size:=by simp;exact hgr1.size
    have hS9:=hS5.seq;have hC9:=hS5.cap;have hal:(acc++(bl x).take k).length=A+k:=by rw[List.length_append,HM.out.2.1,List.length_take,bl_len,Nat.min_eq_left hkr]
    have hre:(x.extract k x.size).size=x.size-k:=by rw[ByteArray.size_extract];omega
    clear kw kl x0 x1 hks hbx hbE hb1;by_cases hm1:x.size=k
    ·have t8:(x.extract k x.size).toList.isEmpty=true:=by rw[isEmpty_iff,hre];simp;omega
     by_cases hl9:t.length=0
     ·have t9:decide (0<t.length)=false:=decide_eq_false (by omega)
      have hl0:t=[]:=List.length_eq_zero_iff.1 hl9
      have HX:=Lib.hid (show tkS m x t=(bl x).take k∧drS m x t=(x.extract k x.size,t)from by
       rw[hl0];refine⟨?_,?_⟩
       ·rw[tkS,List.take_of_length_le (by rw[bl_len];omega),List.take_of_length_le (by rw[bl_len];omega)]
       ·rw[drS]
        refine congrArg (fun x=>(x,[])) (bl_inj ?_);rw[ext_bl,ext_bl,show x.size-m=0 by omega,show x.size-k=0 by omega,List.take_zero,List.take_zero])
      clear hl0 hre hal hm1;have ks:=str_any w.heap.size w.heap.size (acc++(bl x).take k) _ hB2 hsz2
      go_wp2_with fail
      (with_reducible refine(ks).mono ?_);rintro e W3 ⟨rfl,hb3⟩
      go_wp2_with fail
      rw[HR.out];have h1:=HT.out.1;have h2:=HT.out.2;rw[show n-A=m by have:=HM.out.1;omega]at h1 h2;rw[HX.out.1]at h1;rw[HX.out.2]at h2;refine⟨?_,⟨s2,(c1-1),?_⟩,only_then (only_set hgr1 0 _) hb3 (Nat.le_refl _)⟩
      ·rw[←h1];rfl
      ·rw[←h2];exact⟨Blk.below hbl2 hb3 hgw,hS9,hC9⟩
     ·have t9:decide (0<t.length)=true:=decide_eq_true (by omega)
      obtain⟨Z,hZ⟩: ∃Z,A+k=Z:=⟨_,rfl⟩;have HZ:=Lib.hid (show(A+k=Z)∧(acc++(bl x).take k).length=A+k∧(x.extract k x.size).size=0 from⟨hZ,hal,by omega⟩);have kl2:=len_any w.heap.size w.heap.size _ _ hB2;rw[show(Lib.byteCells (acc++(bl x).take k)).length=Z by rw[Lib.byteCells,List.length_map,hal,hZ]]at kl2;clear hZ;by_cases hm2:k<m
      ·have t10:decide (Z<n)=true:=decide_eq_true (by have:=HM.out.1;have:=HZ.out.1;omega)
       have hk9:k=x.size:=hm1.symm;have HK9:=Lib.hid hk9;clear hre hal hm1 hk9
       go_wp2_with fail
       (with_reducible refine(kl2).mono ?_);rintro e W9 ⟨rfl,rfl⟩
       go_wp2_with fail
       go_step3
       have hst:=step_t (l:=t) HK9.out hm2 (fun e=>hl9 (by rw[e];rfl));have hS2:Stm w0 (W1.setCell ⟨g,0,none⟩ (.string (x.extract k x.size))) g (x.extract k x.size) t s2 (c1-1):=⟨hbl2,hS9,hC9⟩;refine⟨rfl,j0_intro (r:=x.extract k x.size) (l:=t) (by kernel_rfl) hS2 hB2 (only_set hgr1 0 _) ?_ ?_ ?_ ?_,?_⟩
       ·exact isb_lt hB2
       ·rw[HZ.out.2.1,HZ.out.1];have:=HM.out.1;have:=HZ.out.1;omega
       ·rw[HZ.out.2.1,HZ.out.1,←HT.out.1,show n-A=m by have:=HM.out.1;omega,hst.1,List.append_assoc,show n-Z=m-k by have:=HM.out.1;have:=HZ.out.1;omega]
       ·rw[HZ.out.2.1,HZ.out.1,←HT.out.2,show n-A=m by have:=HM.out.1;omega,hst.2,show n-Z=m-k by have:=HM.out.1;have:=HZ.out.1;omega]
       ·rw[mu_eq hS2,if_pos HZ.out.2.2]
        exact HMU.out hl9
      ·have t10:decide (Z<n)=false:=decide_eq_false (by have:=HM.out.1;have:=HZ.out.1;omega)
       have HX:=Lib.hid (show tkS m x t=(bl x).take k∧drS m x t=(x.extract k x.size,t)from by
        rw[show k=m by omega];exact⟨tkS_in (by omega) _,drS_in (by omega) _⟩)
       clear hre hal hm1
       go_wp2_with fail
       (with_reducible refine(kl2).mono ?_);rintro e W9 ⟨rfl,rfl⟩
       have ks:=str_any w.heap.size w.heap.size (acc++(bl x).take k) _ hB2 hsz2
       go_wp2_with fail
       (with_reducible refine(ks).mono ?_);rintro e W3 ⟨rfl,hb3⟩
       go_wp2_with fail
       rw[HR.out];have h1:=HT.out.1;have h2:=HT.out.2;rw[show n-A=m by have:=HM.out.1;omega]at h1 h2;rw[HX.out.1]at h1;rw[HX.out.2]at h2;refine⟨?_,⟨s2,(c1-1),?_⟩,only_then (only_set hgr1 0 _) hb3 (Nat.le_refl _)⟩
       ·rw[←h1];rfl
       ·rw[←h2];exact⟨Blk.below hbl2 hb3 hgw,hS9,hC9⟩
    ·have t8:(x.extract k x.size).toList.isEmpty=false:=by rw[isEmpty_iff,hre];simp;omega
     have HX:=Lib.hid (show tkS m x t=(bl x).take k∧drS m x t=(x.extract k x.size,t)from by
      rw[show k=m by have:=HK.out;omega];exact⟨tkS_in (by have:=HK.out;omega) _,drS_in (by have:=HK.out;omega) _⟩)
     clear hre hal;have ks:=str_any w.heap.size w.heap.size (acc++(bl x).take k) _ hB2 hsz2
     go_wp2_with fail
     (with_reducible refine(ks).mono ?_);rintro e W3 ⟨rfl,hb3⟩
     go_wp2_with fail
     rw[HR.out];have h1:=HT.out.1;have h2:=HT.out.2;rw[show n-A=m by have:=HM.out.1;omega]at h1 h2;rw[HX.out.1]at h1;rw[HX.out.2]at h2;refine⟨?_,⟨s2,(c1-1),?_⟩,only_then (only_set hgr1 0 _) hb3 (Nat.le_refl _)⟩
     ·rw[←h1];rfl
     ·rw[←h2];exact⟨Blk.below hbl2 hb3 hgw,hS9,hC9⟩
  ·have t0:r1.toList.isEmpty=false:=by rw[isEmpty_iff];simpa using h0
   have HMU:=Lib.hid (show l1.length≠0→2*l1.length<mu g W from fun _=>by rw[hmu,if_neg h0];omega);clear hmu h0;have hcl:(Lib.byteCells acc).length=acc.length:=by simp[Lib.byteCells]
   have kl: ∀p,Calls Tryz.prog 36 #[.pointer (some ⟨w.heap.size,0,none⟩)] (ext W p) fun e w'=>e= .returned (.int .i64 (acc.length:Int))∧ext W p=w':=fun p=>
    (len_any w.heap.size w.heap.size (Lib.byteCells acc) (ext W p) (isb_below hB (below_ext _ p))).mono fun e w' ⟨h1,h2⟩=>⟨by rw[h1,hcl],h2.symm⟩
   obtain⟨m,hm⟩: ∃m,n=acc.length+m:=⟨n-acc.length,by omega⟩;obtain⟨A,hA⟩: ∃A,acc.length=A:=⟨_,rfl⟩;rw[hA]at kl hm hacc HT;obtain⟨k,hk⟩: ∃k,min m r1.size=k:=⟨_,rfl⟩;have hnm:(n:Int)-(A:Int)=(m:Int):=by omega
   have hmn: ∀(ts:Array TypeId) (ty:TypeId) (V:World),(Builtin.min_ ts ty #[.int .i64 ((n:Int)-(A:Int)),.int .i64 (r1.size:Int)]).run Tryz.prog V= .ok (.int .i64 (k:Int)) V:=fun ts ty V=>by
    rw[run_min_int2,hnm]
    congr 2
    split<;>omega
   have x0:=fun pX=>Blk.cell (blk_ext (hS1.blk) pX) 0 (v:= .string r1) rfl;have x1:=fun pX=>Blk.cell (blk_ext (hS1.blk) pX) 1 (v:= .slice s1 l1.length c1) rfl;have n1:(n:Int)≤1000:=by omega
   have n2:(A:Int)<(n:Int):=by omega
   have n3:(0:Int)≤(A:Int):=by omega
   have n4:(0:Int)≤(n:Int):=by omega
   have HK:=Lib.hid hk;have HM:=Lib.hid (And.intro hm (And.intro hA hcl));clear hk hm hA hcl hnm
   go_wp2_with fail
   refine Go.Proofs.YtibjkhepedfpiaaGreatDoor.Q.region_ext (by kernel_rfl) (by kernel_rfl) ?_
   repeat (go_big_quiet_step ((go_at_call 36;refine ext_call_same (kl _))))
   refine wpQuiet_nil ?_;rintro w9 ⟨pq,rfl⟩;clear hmn
   try clear t1
   have hkr:k≤r1.size:=by have:=HK.out;omega
   have hkm:k≤m:=by have:=HK.out;omega
   have hks:(r1.extract 0 k).size=k:=by rw[ext_size _ hkr];omega
   have hxk:bl (r1.extract 0 k)=(bl r1).take k:=by rw[ext_bl];simp
   have n5:(k:Int)≤(r1.size:Int):=by omega
   have n6:(0:Int)≤(k:Int):=by omega
   have kw:=write_any w.heap.size w.heap.size (Lib.byteCells acc) (r1.extract 0 k) (ext W pq) (isb_below hB (below_ext _ pq)) (by have:=HM.out.1;rw[HM.out.2.2,HM.out.2.1,hks];omega) (by have:=(below_ext W pq).size;omega);rw[str_cells,cells_app,hxk]at kw;have hbx:=below_ext W pq
   go_wp2_with fail
   (with_reducible refine(kw).mono ?_);rintro e W1 ⟨rfl,hB1,hb1⟩
   have hbE:Below w.heap.size W W1:=(hbx.mono (by omega)).trans hb1;have hbl1:=Blk.below hS1.blk hbE hgw;have hgr1:w.grownBy W1 (some g):=only_then hgr hbE (Nat.le_refl _);have y0:=Blk.cell hbl1 0 (v:= .string r1) rfl;have y1:=Blk.cell hbl1 1 (v:= .slice s1 l1.length c1) rfl;have g0:=Blk.frozen hbl1 0;have hbl2:=Blk.set_ hbl1 0 (.string (r1.extract k r1.size));have z0:=Blk.cell hbl2 0 (v:= .string (r1.extract k r1.size)) rfl;have z1:=Blk.cell hbl2 1 (v:= .slice s1 l1.length c1) rfl;have hB2:=isb_grown hB1 (only_set (only_refl W1 (some g)) 0 (.string (r1.extract k r1.size))) hgw (Nat.le_refl _);have hsz2:w.heap.size≤(W1.setCell ⟨g,0,none⟩ (.string (r1.extract k r1.size))).heap.size:=by simp;exact hgr1.size
   have hS9:=hS1.seq;have hC9:=hS1.cap;have hal:(acc++(bl r1).take k).length=A+k:=by rw[List.length_append,HM.out.2.1,List.length_take,bl_len,Nat.min_eq_left hkr]
   have hre:(r1.extract k r1.size).size=r1.size-k:=by rw[ByteArray.size_extract];omega
   clear kw kl x0 x1 hks hbx hbE hb1;by_cases hm1:r1.size=k
   ·have t8:(r1.extract k r1.size).toList.isEmpty=true:=by rw[isEmpty_iff,hre];simp;omega
    by_cases hl9:l1.length=0
    ·have t9:decide (0<l1.length)=false:=decide_eq_false (by omega)
     have hl0:l1=[]:=List.length_eq_zero_iff.1 hl9
     have HX:=Lib.hid (show tkS m r1 l1=(bl r1).take k∧drS m r1 l1=(r1.extract k r1.size,l1)from by
      rw[hl0];refine⟨?_,?_⟩
      ·rw[tkS,List.take_of_length_le (by rw[bl_len];omega),List.take_of_length_le (by rw[bl_len];omega)]
      ·rw[drS]
       refine congrArg (fun x=>(x,[])) (bl_inj ?_);rw[ext_bl,ext_bl,show r1.size-m=0 by omega,show r1.size-k=0 by omega,List.take_zero,List.take_zero])
     clear hl0 hre hal hm1;have ks:=str_any w.heap.size w.heap.size (acc++(bl r1).take k) _ hB2 hsz2
     go_wp2_with fail
     (with_reducible refine(ks).mono ?_);rintro e W3 ⟨rfl,hb3⟩
     go_wp2_with fail
     rw[HR.out];have h1:=HT.out.1;have h2:=HT.out.2;rw[show n-A=m by have:=HM.out.1;omega]at h1 h2;rw[HX.out.1]at h1;rw[HX.out.2]at h2;refine⟨?_,⟨s1,c1,?_⟩,only_then (only_set hgr1 0 _) hb3 (Nat.le_refl _)⟩
     ·rw[←h1];rfl
     ·rw[←h2];exact⟨Blk.below hbl2 hb3 hgw,hS9,hC9⟩
    ·have t9:decide (0<l1.length)=true:=decide_eq_true (by omega)
     obtain⟨Z,hZ⟩: ∃Z,A+k=Z:=⟨_,rfl⟩;have HZ:=Lib.hid (show(A+k=Z)∧(acc++(bl r1).take k).length=A+k∧(r1.extract k r1.size).size=0 from⟨hZ,hal,by omega⟩);have kl2:=len_any w.heap.size w.heap.size _ _ hB2;rw[show(Lib.byteCells (acc++(bl r1).take k)).length=Z by rw[Lib.byteCells,List.length_map,hal,hZ]]at kl2;clear hZ;by_cases hm2:k<m
     ·have t10:decide (Z<n)=true:=decide_eq_true (by have:=HM.out.1;have:=HZ.out.1;omega)
      have hk9:k=r1.size:=hm1.symm;have HK9:=Lib.hid hk9;clear hre hal hm1 hk9
      go_wp2_with fail
      (with_reducible refine(kl2).mono ?_);rintro e W9 ⟨rfl,rfl⟩
      go_wp2_with fail
      go_step3
      have hst:=step_t (l:=l1) HK9.out hm2 (fun e=>hl9 (by rw[e];rfl));have hS2:Stm w0 (W1.setCell ⟨g,0,none⟩ (.string (r1.extract k r1.size))) g (r1.extract k r1.size) l1 s1 c1:=⟨hbl2,hS9,hC9⟩;refine⟨rfl,j0_intro (r:=r1.extract k r1.size) (l:=l1) (by kernel_rfl) hS2 hB2 (only_set hgr1 0 _) ?_ ?_ ?_ ?_,?_⟩
      ·exact isb_lt hB2
      ·rw[HZ.out.2.1,HZ.out.1];have:=HM.out.1;have:=HZ.out.1;omega
      ·rw[HZ.out.2.1,HZ.out.1,←HT.out.1,show n-A=m by have:=HM.out.1;omega,hst.1,List.append_assoc,show n-Z=m-k by have:=HM.out.1;have:=HZ.out.1;omega]
      ·rw[HZ.out.2.1,HZ.out.1,←HT.out.2,show n-A=m by have:=HM.out.1;omega,hst.2,show n-Z=m-k by have:=HM.out.1;have:=HZ.out.1;omega]
      ·rw[mu_eq hS2,if_pos HZ.out.2.2]
       exact HMU.out hl9
     ·have t10:decide (Z<n)=false:=decide_eq_false (by have:=HM.out.1;have:=HZ.out.1;omega)
      have HX:=Lib.hid (show tkS m r1 l1=(bl r1).take k∧drS m r1 l1=(r1.extract k r1.size,l1)from by
       rw[show k=m by omega];exact⟨tkS_in (by omega) _,drS_in (by omega) _⟩)
      clear hre hal hm1
      go_wp2_with fail
      (with_reducible refine(kl2).mono ?_);rintro e W9 ⟨rfl,rfl⟩
      have ks:=str_any w.heap.size w.heap.size (acc++(bl r1).take k) _ hB2 hsz2
      go_wp2_with fail
      (with_reducible refine(ks).mono ?_);rintro e W3 ⟨rfl,hb3⟩
      go_wp2_with fail
      rw[HR.out];have h1:=HT.out.1;have h2:=HT.out.2;rw[show n-A=m by have:=HM.out.1;omega]at h1 h2;rw[HX.out.1]at h1;rw[HX.out.2]at h2;refine⟨?_,⟨s1,c1,?_⟩,only_then (only_set hgr1 0 _) hb3 (Nat.le_refl _)⟩
      ·rw[←h1];rfl
      ·rw[←h2];exact⟨Blk.below hbl2 hb3 hgw,hS9,hC9⟩
   ·have t8:(r1.extract k r1.size).toList.isEmpty=false:=by rw[isEmpty_iff,hre];simp;omega
    have HX:=Lib.hid (show tkS m r1 l1=(bl r1).take k∧drS m r1 l1=(r1.extract k r1.size,l1)from by
     rw[show k=m by have:=HK.out;omega];exact⟨tkS_in (by have:=HK.out;omega) _,drS_in (by have:=HK.out;omega) _⟩)
    clear hre hal;have ks:=str_any w.heap.size w.heap.size (acc++(bl r1).take k) _ hB2 hsz2
    go_wp2_with fail
    (with_reducible refine(ks).mono ?_);rintro e W3 ⟨rfl,hb3⟩
    go_wp2_with fail
    rw[HR.out];have h1:=HT.out.1;have h2:=HT.out.2;rw[show n-A=m by have:=HM.out.1;omega]at h1 h2;rw[HX.out.1]at h1;rw[HX.out.2]at h2;refine⟨?_,⟨s1,c1,?_⟩,only_then (only_set hgr1 0 _) hb3 (Nat.le_refl _)⟩
    ·rw[←h1];rfl
    ·rw[←h2];exact⟨Blk.below hbl2 hb3 hgw,hS9,hC9⟩
 ·intro b0
  go_wp2_with fail
  go_step3
  rename_i hK;refine hK _ _ ?_;have hI:IsB w.heap.size w.heap.size (Lib.byteCells []) (w.alloc (.cells #[.pointer none,.slice none 0 0] 92)):=Lib.fresh_isBuilder 92 5 w;exact b0 _ _ (j0_intro (r:=r) (l:=l) (acc:=[]) (by kernel_rfl) ⟨Blk.alloc HS.out.blk _,HS.out.seq,HS.out.cap⟩ hI (only_alloc (only_refl _ _) _) (by simp) hn (by simp) (by simp))
end Go.Proofs.YtibjkhepedfpiaaGreatDoor.PaT
namespace Go.Proofs.YtibjkhepedfpiaaGreatDoor.PaN
open Go Go.RowKit Q Mem Rg Ap St CrB SeEq PaR PaA PaT
theorem only_fresh {a b:World} {row:Option Nat} (h:a.drew.grownBy b row):a.grownBy b row:=⟨h.os,h.tape,h.output,h.size,h.block⟩
theorem tkS_len: ∀(l:List ByteArray) (n:Nat) (r:ByteArray),(tkS n r l).length≤n
 |[],n,r=>by simp[tkS];omega
 |x::t,n,r=>by
  rw[tkS]
  split
  ·simp;omega
  ·have:=tkS_len t (n-r.size) x
   rw[List.length_append,bl_len];omega
theorem ff_size (k:Nat):(ff k).size=k:=by
 have:(bl (ff k)).length=k:=by unfold ff;rw[bl_str,List.length_replicate]
 exact this
def startB (r:ByteArray) (l:List ByteArray):Bool:= !(decide (183≤r.size)||(decide (0<r.size)&&decide (l.length=0)))
def bodyL (r:ByteArray) (l:List ByteArray):List UInt8:=
 if startB r l then(UInt8.ofNat r.size::tkS 183 r l)++List.replicate (184-(1+(tkS 183 r l).length)) 255
 else(bl r).take 184++List.replicate (if r.size<183 then 184-r.size else 0) 255
theorem body_no {r:ByteArray} {l:List ByteArray} (h:startB r l=false):bodyL r l=(bl r).take 184++List.replicate (if r.size<183 then 184-r.size else 0) 255:=by
 unfold bodyL;rw[h];rfl
theorem body_yes {r:ByteArray} {l:List ByteArray} (h:startB r l=true):bodyL r l=(UInt8.ofNat r.size::tkS 183 r l)++List.replicate (184-(1+(tkS 183 r l).length)) 255:=by
 unfold bodyL;rw[h];rfl
def stepS (r:ByteArray) (l:List ByteArray):ByteArray×List ByteArray:=drS (if 184≤r.size then 184 else 183) r l
theorem conv_blk {V:World} {g:Nat} {x:Int} (q:Blk V g 5 #[.int .u8 x]):
 (convert 90 9 (.slice (some ⟨g,0,none⟩) 1 1)).run Tryz.prog V= .ok (.string (strOfNums [x])) V:=
 run_convert_bytes_arg (P:=Tryz.prog) _ 90 5 Tryz.underlying90 Tryz.underlying5 g 0 1 1 [x] rfl (fun j hj=>by
  obtain rfl:j=0:=by omega
  exact Blk.cell q 0 rfl) _ Tryz.underlying9
set_option maxRecDepth 100000
set_option maxHeartbeats 3200000 in
theorem next_any (w0 w:World) (g:Nat) (r:ByteArray) (l:List ByteArray) (a:Option Addr) (c:Nat) (hS:Stm w0 w g r l a c) (hb:Below w0.heap.size w0 w) (hg:w0.heap.size≤g) (hr:r.size≤1099511627776):
 Calls Tryz.prog 75 #[.pointer (some ⟨g,0,none⟩)] w fun e w'=>e= .returned (.tuple #[.string (str (bodyL r l)),.bool (startB r l)])∧(∃a' c',Stm w0 w' g (stepS r l).1 (stepS r l).2 a' c')∧w.grownBy w' (some g):=by
 have HS:=Lib.hid hS;have hgw:g<w.heap.size:=hS.blk.lt;have e0:=Blk.cell hS.blk 0 (v:= .string r) rfl;have e1:=Blk.cell hS.blk 1 (v:= .slice a l.length c) rfl;have f0:=Blk.frozen hS.blk 0;by_cases h183:183≤r.size
 ·have t1:decide (183≤(r.size:Int))=true:=by simp;omega
  obtain⟨k,hk⟩: ∃k,min r.size 184=k:=⟨_,rfl⟩
  have hmn: ∀(ts:Array TypeId) (ty:TypeId) (V:World),(Builtin.min_ ts ty #[.int .i64 (r.size:Int),.int .i64 184]).run Tryz.prog V= .ok (.int .i64 (k:Int)) V:=fun ts ty V=>by
   rw[run_min_int2]
   congr 2
   split<;>omega
  have t2:decide ((r.size:Int)<183)=false:=by simp;omega
  have n1:(k:Int)≤(r.size:Int):=by omega
  have n2:(0:Int)≤(k:Int):=by omega
  have n3:(r.extract 0 k).size=k:=by rw[ext_size _ (by omega)];omega
  have HX:=Lib.hid (show str (bodyL r l)=r.extract 0 k∧startB r l=false∧stepS r l=(r.extract k r.size,l)from by
   have hs:startB r l=false:=by unfold startB;rw[decide_eq_true h183];rfl
   refine⟨?_,hs,?_⟩
   ·rw[body_no hs,if_neg (by omega)]
    refine bl_inj ?_;rw[ext_bl,bl_str];simp;rcases Nat.le_total 184 r.size with h|h
    ·rw[show k=184 by omega]
    ·rw[bl_len];omega
   ·unfold stepS
    split
    ·rw[drS_in (by omega),show k=184 by omega]
    ·rw[drS_in (by omega),show k=183 by omega])
  have hbl2:=Blk.set_ hS.blk 0 (.string (r.extract k r.size));have HB:=Lib.hid hbl2;clear hS hk h183 hbl2
  go_enter Tryz.func75,Tryz.ntmps75
  go_wp2_with fail
  go_ret2
  refine⟨by rw[HX.out.1,HX.out.2.1];rfl,⟨a,c,?_⟩,only_set (only_refl _ _) 0 _⟩;rw[HX.out.2.2];exact⟨HB.out,HS.out.seq,HS.out.cap⟩
 ·have t1:decide (183≤(r.size:Int))=false:=by simp;omega
  have t2:decide ((r.size:Int)<183)=true:=by simp;omega
  by_cases hq:0<r.size∧l.length=0
  ·obtain⟨hr0,hl0⟩:=hq
   have t3:decide ((0:Int)<(r.size:Int))=true:=by simp;omega
   have t4:(l.length==0)=true:=beq_iff_eq.2 hl0;obtain⟨k,hk⟩: ∃k,r.size=k:=⟨_,rfl⟩
   have hmn: ∀(ts:Array TypeId) (ty:TypeId) (V:World),(Builtin.min_ ts ty #[.int .i64 (r.size:Int),.int .i64 184]).run Tryz.prog V= .ok (.int .i64 (k:Int)) V:=fun ts ty V=>by
    rw[run_min_int2]
    congr 2
    split<;>omega
   have n1:(k:Int)≤(r.size:Int):=by omega
   have n2:(0:Int)≤(k:Int):=by omega
   have n3:(r.extract 0 k).size=k:=by rw[ext_size _ (by omega)];omega
   have kf:=fun V=>ff_any (184-k) V (by omega)
   have HX:=Lib.hid (show str (bodyL r l)=r.extract 0 k++ff (184-k)∧startB r l=false∧stepS r l=(r.extract k r.size,l)from by
    have hs:startB r l=false:=by unfold startB;rw[decide_eq_true hr0,decide_eq_true hl0];simp
    have hl:l=[]:=List.length_eq_zero_iff.1 hl0;refine⟨?_,hs,?_⟩
    ·rw[body_no hs,if_pos (by omega)]
     refine bl_inj ?_;rw[bl_app,ext_bl,bl_str];simp;rw[List.take_of_length_le (by rw[bl_len];omega),List.take_of_length_le (by rw[bl_len];omega),hk];rfl
    ·unfold stepS
     rw[if_neg (by omega),hl,drS];refine congrArg (fun x=>(x,[])) (bl_inj ?_);rw[ext_bl,ext_bl,show r.size-183=0 by omega,show r.size-k=0 by omega,List.take_zero,List.take_zero])
   have n4:((184-k:Nat):Int)=184-(r.size:Int):=by omega
   rw[n4]at kf;have ka:=fun U=>add_at (r.extract 0 k) (ff (184-k)) (by rw[n3,ff_size];omega) U;have hbl2:=Blk.set_ hS.blk 0 (.string (r.extract k r.size));have HB:=Lib.hid hbl2;have t5:decide (0<r.size)=true:=decide_eq_true hr0;have t6:((l.length:Int)==0)=true:=by simp;exact List.length_eq_zero_iff.1 hl0
   clear hS h183 hbl2 hl0 hr0 n4 hk
   go_enter Tryz.func75,Tryz.ntmps75
   go_wp2_with fail
   (with_reducible refine(kf _).mono ?_);rintro e W9 ⟨rfl,hb9⟩
   go_wp2_with fail
   go_ret2
   refine⟨by rw[HX.out.1,HX.out.2.1];rfl,⟨a,c,?_⟩,only_then (only_set (only_refl _ _) 0 _) hb9 (by simp)⟩;rw[HX.out.2.2];exact⟨Blk.below HB.out hb9 (by simpa using hgw),HS.out.seq,HS.out.cap⟩
  ·obtain⟨T,hT⟩: ∃T,tkS 183 r l=T:=⟨_,rfl⟩
   have hTl:T.length≤183:=by rw[←hT];exact tkS_len l 183 r
   have hs:startB r l=true:=by
    unfold startB;rw[decide_eq_false h183];by_cases h0:0<r.size
    ·rw[decide_eq_false (fun e=>hq ⟨h0,e⟩)];simp
    ·rw[decide_eq_false h0];simp
   have hq1:IntKind.u8.wrap (r.size:Int)=(r.size:Int):=by rw[IntKind.wrap_u8];omega
   have hso:strOfNums [(r.size:Int)]=str [UInt8.ofNat r.size]:=by rw[nums_str];rfl
   have HX:=Lib.hid (show str (bodyL r l)=str (UInt8.ofNat r.size::T)++ff (184-(1+T.length))∧startB r l=true∧stepS r l=drS 183 r l∧strOfNums [(r.size:Int)]++str T=str (UInt8.ofNat r.size::T)from by
    refine⟨?_,hs,?_,?_⟩
    ·rw[body_yes hs,hT]
     refine bl_inj ?_;rw[bl_app,bl_str,bl_str];rfl
    ·unfold stepS
     rw[if_neg (by omega)]
    ·rw[hso,str_app];rfl)
   have hsz:(str (UInt8.ofNat r.size::T)).size=1+T.length:=by
    rw[←bl_len,bl_str,List.length_cons];omega
   have hz1:(strOfNums [(r.size:Int)]).size=1:=by rw[hso];rfl
   have hz2:(str T).size=T.length:=rfl;have ka:=fun U=>add_at (strOfNums [(r.size:Int)]) (str T) (by rw[hz1,hz2];omega) U;rw[HX.out.2.2.2]at ka;have kb:=fun U=>add_at (str (UInt8.ofNat r.size::T)) (ff (184-(1+T.length))) (by rw[hsz,ff_size];omega) U;have kf:=fun V=>ff_any (184-(1+T.length)) V (by omega);have n4:((184-(1+T.length):Nat):Int)=184-((str (UInt8.ofNat r.size::T)).size:Int):=by rw[hsz];omega
   rw[n4]at kf;have n7:((str (UInt8.ofNat r.size::T)).size:Int)≤184:=by rw[hsz];omega
   have n8:(0:Int)≤((str (UInt8.ofNat r.size::T)).size:Int):=by omega
   have hbd:Below w0.heap.size w0 w.drew:=below_drewN hb 1;have hSd:Stm w0 w.drew g r l a c:=⟨Blk.drew hS.blk,hS.seq,hS.cap⟩;have k1:=take_any w0 w.drew g 183 r l a c hSd hbd hg (by decide) (by decide);have k2:=take_any w0 ((w.alloc (.cells #[.int .u8 (r.size:Int)] 5)).drew) g 183 r l a c ⟨Blk.drew (Blk.alloc hS.blk _),hS.seq,hS.cap⟩ (below_drewN (hb.alloc hb.size _) 1) hg (by decide) (by decide);rw[hT]at k1 k2;have cA:=conv_blk (V:=(w.alloc (.cells #[.int .u8 (r.size:Int)] 5)).drew) (Blk.drew (Blk.new w 5 #[.int .u8 (r.size:Int)]));have cC:=fun V=>conv_blk (Blk.new V 5 #[.int .u8 (r.size:Int)]);have hN:=Lib.hid (Blk.drew (Blk.new w 5 #[.int .u8 (r.size:Int)]));by_cases h0:0<r.size
   ·have t3:decide ((0:Int)<(r.size:Int))=true:=by simp;omega
    have t5:decide (0<r.size)=true:=decide_eq_true h0;have t4:(l.length==0)=false:=beq_eq_false_iff_ne.2 (fun e=>hq ⟨h0,e⟩);clear hS hq hTl hs hT hsz n4 hSd hbd h0 h183 hso hz1 hz2
    go_enter Tryz.func75,Tryz.ntmps75
    go_wp2_with fail
    go_region_with ((go_at_call 113;first|(refine k1.mono ?_;rintro e w' ⟨rfl,hs',hg'⟩;have hgg:=only_fresh hg')|(refine k2.mono ?_;rintro e w' ⟨rfl,hs',hg'⟩;have cB:=conv_blk (Blk.grown hN.out hg' (by simp;omega));have hgg:=only_trans (only_alloc (only_refl w (some g)) (.cells #[.int .u8 (r.size:Int)] 5)) (only_fresh hg'))))
    all_goals
     go_wp2_with fail
     (with_reducible refine(kf _).mono ?_);rintro e W9 ⟨rfl,hb9⟩
     go_wp2_with fail
     go_ret2
     have hgz:g<w'.heap.size:=Nat.lt_of_lt_of_le hgw hgg.size;obtain⟨a',c',hs''⟩:=hs';refine⟨by rw[HX.out.1,HX.out.2.1];rfl,⟨a',c',?_⟩,?_⟩
     ·rw[HX.out.2.2.1]
      first
       |exact⟨Blk.below hs''.blk hb9 hgz,hs''.seq,hs''.cap⟩
       |exact⟨Blk.below (Blk.alloc hs''.blk _) hb9 (by simp;omega),hs''.seq,hs''.cap⟩
     ·first
       |exact only_then hgg hb9 hgg.size
       |exact only_then (only_alloc hgg _) hb9 (by have:=hgg.size;simp;omega)
   ·have t3:decide ((0:Int)<(r.size:Int))=false:=decide_eq_false (by omega)
    have t5:decide (0<r.size)=false:=decide_eq_false h0;clear hS hq hTl hs hT hsz n4 hSd hbd h0 h183 hso hz1 hz2
    go_enter Tryz.func75,Tryz.ntmps75
    go_wp2_with fail
    go_region_with ((go_at_call 113;first|(refine k1.mono ?_;rintro e w' ⟨rfl,hs',hg'⟩;have hgg:=only_fresh hg')|(refine k2.mono ?_;rintro e w' ⟨rfl,hs',hg'⟩;have cB:=conv_blk (Blk.grown hN.out hg' (by simp;omega));have hgg:=only_trans (only_alloc (only_refl w (some g)) (.cells #[.int .u8 (r.size:Int)] 5)) (only_fresh hg'))))
    all_goals
     go_wp2_with fail
     (with_reducible refine(kf _).mono ?_);rintro e W9 ⟨rfl,hb9⟩
     go_wp2_with fail
     go_ret2
     have hgz:g<w'.heap.size:=Nat.lt_of_lt_of_le hgw hgg.size;obtain⟨a',c',hs''⟩:=hs';refine⟨by rw[HX.out.1,HX.out.2.1];rfl,⟨a',c',?_⟩,?_⟩
     ·rw[HX.out.2.2.1]
      first
       |exact⟨Blk.below hs''.blk hb9 hgz,hs''.seq,hs''.cap⟩
       |exact⟨Blk.below (Blk.alloc hs''.blk _) hb9 (by simp;omega),hs''.seq,hs''.cap⟩
     ·first
       |exact only_then hgg hb9 hgg.size
       |exact only_then (only_alloc hgg _) hb9 (by have:=hgg.size;simp;omega)
end Go.Proofs.YtibjkhepedfpiaaGreatDoor.PaN
namespace Go.Proofs.YtibjkhepedfpiaaGreatDoor.PaK
open Go Go.RowKit Q Mem Rg Ap St CrB SeEq PaR PaA PaT PaN PaP
def firstE:List ByteArray→Int
 |[]=>0
 |s::t=>if paE s=0 then firstE t else paE s
theorem first_take {L:List ByteArray} {k:Nat} {s:ByteArray} (hk:L[k]? =some s) (hf:firstE (L.take k)=0):(paE s=0→firstE (L.take (k+1))=0)∧(paE s≠0→firstE L=paE s):=by
 induction L generalizing k with
 |nil=>simp at hk
 |cons x t ih=>
  cases k with
  |zero=>
   simp at hk;subst hk;exact⟨fun h=>by simp[firstE,h],fun h=>by simp[firstE,h]⟩
  |succ k=>
   simp at hk;simp only[List.take_succ_cons,firstE]at hf ⊢
   split at hf
   ·rename_i hx
    rw[if_pos hx,if_pos hx];exact ih hk hf
   ·rename_i hx
    exact absurd hf hx
theorem first_ok {L:List ByteArray} (h:firstE L=0): ∀s∈L,paE s=0:=by
 induction L with
 |nil=>intro s hs;cases hs
 |cons x t ih=>
  intro s hs;rw[firstE]at h
  split at h
  ·rename_i hx
   rcases List.mem_cons.1 hs with rfl|hs
   ·exact hx
   ·exact ih h s hs
  ·rename_i hx;exact absurd h hx
theorem own_keep {W W':World} {B n sz g:Nat} {e:TypeId} {v:Value} {xs:List Value} (h:W.ownsRow B e sz v n xs) (hg:W.grownBy W' (some g)) (hB:g<B):W'.ownsRow B e sz v n xs:=h.kept hg (by
 cases ho:v.ownBlock with
 |none=>exact Or.inl rfl
 |some r=>exact Or.inr (fun e=>by injection e with e;have:=(h.lt r ho).1;omega))
theorem sum_le {L:List ByteArray} (h: ∀s∈L,paE s=0):(L.map ByteArray.size).sum≤4098*L.length:=by
 induction L with
 |nil=>simp
 |cons x t ih=>
  have h1:=(paE_ok (h x (by simp))).2.1;have h2:=needN_le x;have h3:=ih (fun s hs=>h s (by simp[hs]));simp;omega
theorem size_pos {L:List ByteArray} (h: ∀s∈L,paE s=0): ∀s∈L,0<s.size:=fun s hs=>by
 have:=(paE_ok (h s hs)).2.2.2;omega
def lenV (v:Value):Nat:=match v with| .slice _ n _=>n|_=>0
def stI (L:List ByteArray):Nat→ByteArray×List ByteArray
 |0=>(nob,L)
 |k+1=>stepS (stI L k).1 (stI L k).2
theorem stI_dr (L:List ByteArray): ∀k,((stI L k).1.size,(stI L k).2.map ByteArray.size)=dr (pos (L.map ByteArray.size) k) 0 (L.map ByteArray.size)
 |0=>by
  cases L with
  |nil=>rfl
  |cons x t=>rw[stI,pos,List.map_cons,dr,if_pos (Nat.le_refl _)];rfl
 |k+1=>by
  have ih:=stI_dr L k;have h1:(stI L k).1.size=(dr (pos (L.map ByteArray.size) k) 0 (L.map ByteArray.size)).1:=congrArg Prod.fst ih;have h2:(stI L k).2.map ByteArray.size=(dr (pos (L.map ByteArray.size) k) 0 (L.map ByteArray.size)).2:=congrArg Prod.snd ih;rw[stI,stepS,drS_size,h1,h2,dr_add,pos,fp]
theorem stI_end {L:List ByteArray} (h: ∀s∈L,0<s.size) (k:Nat):((stI L k).1.size=0∧(stI L k).2.length=0)↔(L.map ByteArray.size).sum≤pos (L.map ByteArray.size) k:=by
 have ih:=stI_dr L k;have h1:(stI L k).1.size=(dr (pos (L.map ByteArray.size) k) 0 (L.map ByteArray.size)).1:=congrArg Prod.fst ih;have h2:(stI L k).2.map ByteArray.size=(dr (pos (L.map ByteArray.size) k) 0 (L.map ByteArray.size)).2:=congrArg Prod.snd ih;have h3:=dr_end (L.map ByteArray.size) (pos (L.map ByteArray.size) k) 0 (by intro x hx;obtain⟨s,hs,rfl⟩:=List.mem_map.1 hx;exact h s hs);rw[←h1,←h2,Nat.zero_add]at h3;rw[←h3];simp
structure Pkt where
 pid:Int
 start:Bool
 count:Int
 body:ByteArray
def enPk (p:Pkt):List Value:=[.int .i64 p.pid,.bool p.start,.int .i64 p.count,.bool false,.string p.body]
theorem enPk_len (p:Pkt):(enPk p).length=5:=rfl
def pkI (pid:Int) (count:Nat) (L:List ByteArray) (k:Nat):Pkt:=⟨pid,startB (stI L k).1 (stI L k).2,((count+k)%16:Nat),str (bodyL (stI L k).1 (stI L k).2)⟩
def pks (pid:Int) (count:Nat) (L:List ByteArray) (K:Nat):List Pkt:=(List.range K).map (pkI pid count L)
theorem elemPk:Elem Tryz.prog 100 69 5 48:=elem_of Tryz.underlying100 (z:= .agg #[.int .i64 0,.bool false,.int .i64 0,.bool false,.string ByteArray.empty]) (by kernel_rfl) rfl (by decide)
theorem pks_snoc (pid:Int) (count:Nat) (L:List ByteArray) (q:Nat):flat enPk (pks pid count L (q+1))=flat enPk (pks pid count L q)++enPk (pkI pid count L q):=by
 unfold pks flat;rw[List.range_succ,List.map_append,List.flatMap_append];simp
set_option maxRecDepth 100000
set_option maxHeartbeats 3200000 in
theorem pack_any (pid:Int) (count:Nat) (a:Option Addr) (n c:Nat) (L:List ByteArray) (w:World) (hp0:0≤pid) (hp1:pid<8191) (hc1:count<16) (hn:L.length=n) (hl:n≤100000) (hcap:n≤c) (hL:Seq enS 1 w a L) (hs: ∀s∈L,s.size≤1099511627776):
 Calls Tryz.prog 39 #[.int .i64 pid,.int .i64 (count:Int),.slice a n c] w fun e w'=>(if firstE L=0 then ∃ao cap,e= .returned (.tuple #[.slice ao (nP (L.map ByteArray.size)) cap,.int .i64 ((count+nP (L.map ByteArray.size))%16:Nat),.int .i64 0])∧Seq enPk 5 w' ao (pks pid count L (nP (L.map ByteArray.size)))
  else e= .returned (.tuple #[.slice none 0 0,.int .i64 0,.int .i64 (firstE L)]))∧Below w.heap.size w w':=by
 obtain⟨R,hR⟩: ∃R:Ending→World→Prop,R=(fun e w'=>(if firstE L=0 then ∃ao cap,e= .returned (.tuple #[.slice ao (nP (L.map ByteArray.size)) cap,.int .i64 ((count+nP (L.map ByteArray.size))%16:Nat),.int .i64 0])∧Seq enPk 5 w' ao (pks pid count L (nP (L.map ByteArray.size)))
  else e= .returned (.tuple #[.slice none 0 0,.int .i64 0,.int .i64 (firstE L)]))∧Below w.heap.size w w'):=⟨_,rfl⟩
 rw[←hR];have HR:=Lib.hid hR;have HL:=Lib.hid hL;have HS:=Lib.hid hs;have HN:=Lib.hid hn;have t1:decide (pid<0)=false:=decide_eq_false (by omega);have t2:decide (8191≤pid)=false:=decide_eq_false (by omega);have t3:decide ((count:Int)<0)=false:=decide_eq_false (by omega);have t4:decide (16≤(count:Int))=false:=decide_eq_false (by omega);clear hR hL hs hn
 go_enter Tryz.func39,Tryz.ntmps39
 go_wp2_with fail
 go_loopw [32] (fun i wr=> ∃k:Nat,k≤n∧i= .int .i64 k∧firstE (L.take k)=0∧Below w.heap.size w wr) (fun i _=>n-(intOf i).toNat)
 case atStart=>exact⟨0,by omega,rfl,rfl,Below.refl _ _⟩
 case round=>
  obtain⟨k,hk,rfl,hf,hb⟩:=hrel;by_cases hkn:k<n
  ·have t0:decide (k<n)=true:=decide_eq_true hkn
   obtain⟨s,hs⟩: ∃s,L[k]? =some s:=⟨_,List.getElem?_eq_getElem (by rw[HN.out];exact hkn)⟩;obtain⟨b0,o0,rfl,hlt,hc⟩:=(HL.out.below (Nat.le_refl _) hb) k s hs;have c0:wr.cell? ⟨b0,o0+k,none⟩=some (.string s):=hc 0 _ rfl;have k0:(0:Int)≤(k:Int):=Int.natCast_nonneg _;have k1:(k:Int)<(n:Int):=by omega
   have kc:=fun V=>check_any s V (HS.out s (List.mem_of_getElem? hs));have HF:=Lib.hid (first_take hs hf);obtain⟨E,hE⟩: ∃E,paE s=E:=⟨_,rfl⟩;rw[hE]at kc HF;clear hs hf hc hE;by_cases hE0:E=0
   ·subst hE0
    go_wp2_with fail
    (with_reducible refine(kc _).mono ?_);rintro e W1 ⟨rfl,hb1⟩
    have hb2:=hb.trans (hb1.mono hb.size)
    go_wp2_with fail
    go_roundw
    case rel=>exact⟨k+1,by omega,by go_num,by simpa using HF.out.1,hb2⟩
    case measure=>simp[intOf];omega
   ·have t5:(E==0)=false:=by simpa using hE0
    go_wp2_with fail
    (with_reducible refine(kc _).mono ?_);rintro e W1 ⟨rfl,hb1⟩
    have hb2:=hb.trans (hb1.mono hb.size)
    go_wp2_with fail
    go_ret3
    rw[HR.out];have h1:=HF.out.2 hE0;refine⟨?_,hb2⟩;rw[h1,if_neg hE0];rfl
  ·obtain rfl:k=n:=by omega
   have t0:decide (k<k)=false:=by simp
   have HF:=Lib.hid (show firstE L=0 from by rw[←HN.out,List.take_length]at hf;exact hf);have hS0:Stm w (wr.alloc (.cells #[.string nob,.slice a k c] 157)) wr.heap.size nob L a c:=⟨by rw[HN.out];exact Blk.new _ _ _,HL.out,by rw[HN.out];exact hcap⟩;have HSM:=Lib.hid (sum_le (first_ok HF.out));have HPOS:=Lib.hid (size_pos (first_ok HF.out));have hb0:=hb.alloc hb.size (.cells #[.string nob,.slice a k c] 157);have hbs:=hb.size;clear hf hb
   go_wp2_with fail
   refine wp_gen (fun W=>Stm w W wr.heap.size nob L a c∧Below w.heap.size w W∧W.heap.size=wr.heap.size+1) ⟨hS0,hb0,by simp⟩ ?_;rintro W0 ⟨hS0,hb0,hz0⟩;obtain⟨g,hg⟩: ∃g,wr.heap.size=g:=⟨_,rfl⟩;rw[hg]at hS0 hbs hz0 ⊢;obtain⟨S,hS⟩: ∃S,(L.map ByteArray.size).sum=S:=⟨_,rfl⟩;have HSU:=Lib.hid hS
   go_loopw [1,13] (fun cv out W=> ∃q:Nat,cv= .int .i64 (((count+q)%16:Nat):Int)∧(∀j,j<q→pos (L.map ByteArray.size) j<S)∧W.ownsRow (g+1) 69 5 out q (flat enPk (pks pid count L q))∧(∃a' c',Stm w W g (stI L q).1 (stI L q).2 a' c')∧Below w.heap.size w W∧g+1≤W.heap.size) (fun _ out _=>S+1-lenV out)
   case atStart=>exact⟨0,by rw[Nat.add_zero,Nat.mod_eq_of_lt hc1],fun j h=>by omega,World.ownsRow_nil _ _ _ _,⟨a,c,hS0⟩,hb0,by omega⟩
   case round=>
    obtain⟨q,rfl,hpos,hown,⟨a',c',hS1⟩,hb1,hsz⟩:=hrel;have hr1:=Blk.cell hS1.blk 0 (v:= .string (stI L q).1) rfl;have hl1:=Blk.cell hS1.blk 1 (v:= .slice a' (stI L q).2.length c') rfl;have HEND:=Lib.hid (stI_end HPOS.out q)
    have hrs:(stI L q).1.size≤1099511627776:=by
     have h1:=congrArg Prod.fst (stI_dr L q);have h2:=dr_sum (L.map ByteArray.size) (pos (L.map ByteArray.size) q) 0;have h3:=HSM.out;have h4:=HN.out;simp only at h1;omega
    have kn:=next_any w wr g (stI L q).1 (stI L q).2 a' c' hS1 hb1 hbs hrs;obtain⟨rr,hrr⟩: ∃rr,(stI L q).1=rr:=⟨_,rfl⟩;obtain⟨ll,hll⟩: ∃ll,(stI L q).2=ll:=⟨_,rfl⟩;rw[hrr,hll]at kn;rw[hrr]at hr1 HEND;rw[hll]at hl1 HEND;rw[HSU.out]at HEND;by_cases hend:rr.size=0∧ll.length=0
    ·have t5:rr.toList.isEmpty=true:=by rw[isEmpty_iff];simpa using hend.1
     have t6:decide (0<ll.length)=false:=decide_eq_false (by omega);have HQ:=Lib.hid (show nP (L.map ByteArray.size)=q from Steps.eq ⟨by rw[HSU.out];exact HEND.out.1 hend,by rw[HSU.out];exact hpos⟩);clear kn hend hS1 hrs
     go_wp2_with fail
     go_ret3
     rw[HR.out];refine⟨?_,hb1⟩;rw[if_pos HF.out,HQ.out];obtain⟨ao,cap,rfl⟩:=own_form hown;exact⟨ao,cap,rfl,own_seq enPk_len hown (by simp[pks])⟩
    ·have HLT:=Lib.hid (show pos (L.map ByteArray.size) q<S from by
      have:=HEND.out;rcases Nat.lt_or_ge (pos (L.map ByteArray.size) q) S with h|h
      ·exact h
      ·exact absurd (this.2 h) hend)
     by_cases h0:rr.size=0
     ·have t5:rr.toList.isEmpty=true:=by rw[isEmpty_iff];simpa using h0
      have t6:decide (0<ll.length)=true:=decide_eq_true (by omega);clear hend hS1 hrs h0
      go_wp2_with fail
      (with_reducible refine(kn).mono ?_);rintro e W1 ⟨rfl,hs',hg'⟩
      obtain⟨a2,c2,hS2⟩:=hs';have hown1:=own_keep hown hg' (Nat.lt_succ_self g);obtain⟨cq,hcq⟩: ∃cq:Nat,(count+q)%16=cq:=⟨_,rfl⟩;have hcm:(((count:Int)+(q:Int))%16)=(cq:Int):=by omega
      have hc15:(cq:Int)≤15:=by omega
      have hc00:(0:Int)≤(cq:Int):=by omega
      have HOW:=Lib.hid hown1;have hb9:=Blk.new W1 69 #[.int .i64 pid,.bool (startB rr ll),.int .i64 (cq:Int),.bool false,.string (str (bodyL rr ll))];have hown2:=own_below hown1 ((Below.refl W1.heap.size W1).alloc (Nat.le_refl _) (.cells #[.int .i64 pid,.bool (startB rr ll),.int .i64 (cq:Int),.bool false,.string (str (bodyL rr ll))] 69));have hbw1:Below w.heap.size w W1:=hb1.trans (below_of_only hg' hb1.size (fun k hk=>by injection hk with hk;omega))
      have hqb:q≤2300000:=by
       have h1:=pos_ge (L.map ByteArray.size) q;have h2:=HLT.out;have h3:=HSM.out;have h4:=HN.out;have h5:=HSU.out;omega
      have hsz2:g+1≤(W1.alloc (.cells #[.int .i64 pid,.bool (startB rr ll),.int .i64 (cq:Int),.bool false,.string (str (bodyL rr ll))] 69)).heap.size:=by have:=hg'.size;simp;omega
      have hS3:Stm w (W1.alloc (.cells #[.int .i64 pid,.bool (startB rr ll),.int .i64 (cq:Int),.bool false,.string (str (bodyL rr ll))] 69)) g (stepS rr ll).1 (stepS rr ll).2 a2 c2:=⟨Blk.alloc hS2.blk _,hS2.seq,hS2.cap⟩;have hbw2:=hbw1.alloc hbw1.size (.cells #[.int .i64 pid,.bool (startB rr ll),.int .i64 (cq:Int),.bool false,.string (str (bodyL rr ll))] 69);have HR3:=Lib.hid (And.intro hrr (And.intro hll hcq));rw[hcq]
      try clear t6
      clear kn hr1 hl1 t5 hcq hrr hll hown hown1 hb1 hS2 hbw1
      go_wp2_with (at_builtin;refine wpList_app rfl _ _ rfl elemPk rfl hown2 rfl rfl (blk_news hb9) (by simp[Value.oneCell']) (by omega) (by unfold maxLen;omega) hsz2 ?_)
      intro v9 w8 hown9 hb8;have hlt8:g<g+1:=Nat.lt_succ_self g;have hbw3:=hbw2.trans (hb8.mono (by omega));have hS8:Stm w w8 g (stepS rr ll).1 (stepS rr ll).2 a2 c2:=⟨Blk.below hS3.blk hb8 hlt8,hS3.seq,hS3.cap⟩;have hz8:=Nat.le_trans hsz2 hb8.size;clear hown2 hb9 hS3 hbw2
      go_wp2_with fail
      go_roundw
      case rel=>
       obtain⟨h1,h2,h3⟩:=HR3.out;refine⟨q+1,by congr 1;omega,fun j hj=>?_,?_,⟨a2,c2,?_⟩,hbw3,hz8⟩
       ·rcases Nat.lt_or_ge j q with h|h
        ·exact hpos j h
        ·obtain rfl:j=q:=by omega
         exact HLT.out
       ·rw[pks_snoc]
        have e:enPk (pkI pid count L q)=[.int .i64 pid,.bool (startB rr ll),.int .i64 (cq:Int),.bool false,.string (str (bodyL rr ll))]:=by unfold pkI enPk;rw[h1,h2,h3]
        rw[e];exact hown9
       ·rw[stI,h1,h2]
        exact hS8
      case measure=>
       obtain⟨x1,x2,hx⟩:=own_form hown9;obtain⟨y1,y2,hy⟩:=own_form HOW.out;rw[hx,hy];simp[lenV];have h1:=pos_ge (L.map ByteArray.size) q;have h2:=HLT.out;omega
     ·have t5:rr.toList.isEmpty=false:=by rw[isEmpty_iff];simpa using h0
      clear hend hS1 hrs h0
      go_wp2_with fail
      (with_reducible refine(kn).mono ?_);rintro e W1 ⟨rfl,hs',hg'⟩
      obtain⟨a2,c2,hS2⟩:=hs';have hown1:=own_keep hown hg' (Nat.lt_succ_self g);obtain⟨cq,hcq⟩: ∃cq:Nat,(count+q)%16=cq:=⟨_,rfl⟩;have hcm:(((count:Int)+(q:Int))%16)=(cq:Int):=by omega
      have hc15:(cq:Int)≤15:=by omega
      have hc00:(0:Int)≤(cq:Int):=by omega
      have HOW:=Lib.hid hown1;have hb9:=Blk.new W1 69 #[.int .i64 pid,.bool (startB rr ll),.int .i64 (cq:Int),.bool false,.string (str (bodyL rr ll))];have hown2:=own_below hown1 ((Below.refl W1.heap.size W1).alloc (Nat.le_refl _) (.cells #[.int .i64 pid,.bool (startB rr ll),.int .i64 (cq:Int),.bool false,.string (str (bodyL rr ll))] 69));have hbw1:Below w.heap.size w W1:=hb1.trans (below_of_only hg' hb1.size (fun k hk=>by injection hk with hk;omega))
      have hqb:q≤2300000:=by
       have h1:=pos_ge (L.map ByteArray.size) q;have h2:=HLT.out;have h3:=HSM.out;have h4:=HN.out;have h5:=HSU.out;omega
      have hsz2:g+1≤(W1.alloc (.cells #[.int .i64 pid,.bool (startB rr ll),.int .i64 (cq:Int),.bool false,.string (str (bodyL rr ll))] 69)).heap.size:=by have:=hg'.size;simp;omega
      have hS3:Stm w (W1.alloc (.cells #[.int .i64 pid,.bool (startB rr ll),.int .i64 (cq:Int),.bool false,.string (str (bodyL rr ll))] 69)) g (stepS rr ll).1 (stepS rr ll).2 a2 c2:=⟨Blk.alloc hS2.blk _,hS2.seq,hS2.cap⟩;have hbw2:=hbw1.alloc hbw1.size (.cells #[.int .i64 pid,.bool (startB rr ll),.int .i64 (cq:Int),.bool false,.string (str (bodyL rr ll))] 69);have HR3:=Lib.hid (And.intro hrr (And.intro hll hcq));rw[hcq]
      try clear t6
      clear kn hr1 hl1 t5 hcq hrr hll hown hown1 hb1 hS2 hbw1
      go_wp2_with (at_builtin;refine wpList_app rfl _ _ rfl elemPk rfl hown2 rfl rfl (blk_news hb9) (by simp[Value.oneCell']) (by omega) (by unfold maxLen;omega) hsz2 ?_)
      intro v9 w8 hown9 hb8;have hlt8:g<g+1:=Nat.lt_succ_self g;have hbw3:=hbw2.trans (hb8.mono (by omega));have hS8:Stm w w8 g (stepS rr ll).1 (stepS rr ll).2 a2 c2:=⟨Blk.below hS3.blk hb8 hlt8,hS3.seq,hS3.cap⟩;have hz8:=Nat.le_trans hsz2 hb8.size;clear hown2 hb9 hS3 hbw2
      go_wp2_with fail
      go_roundw
      case rel=>
       obtain⟨h1,h2,h3⟩:=HR3.out;refine⟨q+1,by congr 1;omega,fun j hj=>?_,?_,⟨a2,c2,?_⟩,hbw3,hz8⟩
       ·rcases Nat.lt_or_ge j q with h|h
        ·exact hpos j h
        ·obtain rfl:j=q:=by omega
         exact HLT.out
       ·rw[pks_snoc]
        have e:enPk (pkI pid count L q)=[.int .i64 pid,.bool (startB rr ll),.int .i64 (cq:Int),.bool false,.string (str (bodyL rr ll))]:=by unfold pkI enPk;rw[h1,h2,h3]
        rw[e];exact hown9
       ·rw[stI,h1,h2]
        exact hS8
      case measure=>
       obtain⟨x1,x2,hx⟩:=own_form hown9;obtain⟨y1,y2,hy⟩:=own_form HOW.out;rw[hx,hy];simp[lenV];have h1:=pos_ge (L.map ByteArray.size) q;have h2:=HLT.out;omega
end Go.Proofs.YtibjkhepedfpiaaGreatDoor.PaK
namespace Go.Proofs.YtibjkhepedfpiaaGreatDoor.SlM
open Go Go.RowKit Q Mem Ap St CrB PaA PaK PaP
def manyE (L:List ByteArray):Int:=if L.length=0 then 18 else firstE L
noncomputable def manyN (L:List ByteArray):Nat:=if manyE L=0 then nP (L.map ByteArray.size)else 0
set_option maxRecDepth 100000
theorem many_any (a:Option Addr) (n c:Nat) (L:List ByteArray) (w:World) (hn:L.length=n) (hl:n≤100000) (hcap:n≤c) (hL:Seq enS 1 w a L) (hs: ∀s∈L,s.size≤1099511627776):
 Calls Tryz.prog 58 #[.slice a n c] w fun e w'=>e= .returned (.tuple #[.int .i64 (manyN L:Int),.int .i64 (manyE L)])∧Below w.heap.size w w':=by
 have kp:=pack_any 0 0 a n c L w (by decide) (by decide) (by decide) hn hl hcap hL hs;rw[show((0:Nat):Int)=0 from rfl]at kp;by_cases h0:n=0
 ·subst h0
  have HE:=Lib.hid (show manyE L=18∧manyN L=0 from by
   have:manyE L=18:=if_pos hn;exact⟨this,if_neg (by rw[this];decide)⟩)
  clear kp hL hs
  go_enter Tryz.func58,Tryz.ntmps58
  go_wp2_with fail
  go_ret2
  exact⟨by rw[HE.out.1,HE.out.2];rfl,Below.refl _ _⟩
 ·have t0:((n:Int)==0)=false:=by simp;omega
  have t1:(n==0)=false:=by simp;omega
  have HM:=Lib.hid (show manyE L=firstE L from if_neg (by omega));by_cases hE:firstE L=0
  ·simp only[if_pos hE]at kp
   have HE:=Lib.hid (show manyN L=nP (L.map ByteArray.size)from if_pos (by rw[HM.out];exact hE));have HE0:=Lib.hid hE;obtain⟨K,hK⟩: ∃K,nP (L.map ByteArray.size)=K:=⟨_,rfl⟩;rw[hK]at kp HE;clear hL hs hE hK h0
   go_enter Tryz.func58,Tryz.ntmps58
   go_wp2_with fail
   (with_reducible refine(kp).mono ?_);rintro e W1 ⟨⟨ao,cap,rfl,hq⟩,hb⟩
   clear hq
   go_wp2_with fail
   go_ret2
   exact⟨by rw[HM.out,HE0.out,HE.out];rfl,hb⟩
  ·simp only[if_neg hE]at kp
   have HE:=Lib.hid (show manyN L=0 from if_neg (by rw[HM.out];exact hE));obtain⟨F,hF⟩: ∃F,firstE L=F:=⟨_,rfl⟩;rw[hF]at kp HM;clear hL hs hE hF h0
   go_enter Tryz.func58,Tryz.ntmps58
   go_wp2_with fail
   (with_reducible refine(kp).mono ?_);rintro e W1 ⟨rfl,hb⟩
   go_wp2_with fail
   go_ret2
   exact⟨by rw[HM.out,HE.out];rfl,hb⟩
end Go.Proofs.YtibjkhepedfpiaaGreatDoor.SlM
namespace Go.Proofs.YtibjkhepedfpiaaGreatDoor.PkP
def b8 (n:Nat):UInt8:=UInt8.ofNat n
theorem b8_nat {n:Nat} (h:n<256):(b8 n).toNat=n:=by unfold b8;rw[UInt8.toNat_ofNat'];omega
def pkB (pid:Nat) (start:Bool) (count:Nat) (body:List UInt8):List UInt8:=
 [71,b8 ((if start then 64 else 0)+pid/256),b8 (pid%256),b8 ((if body.length=184 then 16 else 48)+count)]++(if body.length=184 then[]else[0])++body
theorem pkB_len {pid count:Nat} {start:Bool} {body:List UInt8} (h:body.length=184∨body.length=183):(pkB pid start count body).length=188:=by
 unfold pkB;rcases h with h|h<;>simp[h]
theorem pkB_front {pid count:Nat} {start:Bool} {body:List UInt8} (hp:pid<8192) (hc:count<16) (_h:body.length=184∨body.length=183):
 ((pkB pid start count body).getD 1 0).toNat%32*256+((pkB pid start count body).getD 2 0).toNat=pid∧((pkB pid start count body).getD 1 0).toNat/64%2=(if start then 1 else 0)∧((pkB pid start count body).getD 1 0).toNat/128=0∧
 ((pkB pid start count body).getD 3 0).toNat%16=count∧((pkB pid start count body).getD 3 0).toNat/16%4=(if body.length=184 then 1 else 3):=by
 have e1:((pkB pid start count body).getD 1 0).toNat=(if start then 64 else 0)+pid/256:=by
  show(b8 _).toNat=_;exact b8_nat (by split<;>omega)
 have e2:((pkB pid start count body).getD 2 0).toNat=pid%256:=by
  show(b8 _).toNat=_;exact b8_nat (by omega)
 have e3:((pkB pid start count body).getD 3 0).toNat=(if body.length=184 then 16 else 48)+count:=by
  show(b8 _).toNat=_;exact b8_nat (by split<;>omega)
 rw[e1,e2,e3]
 cases start<;>by_cases hb:body.length=184<;>simp only[hb,if_true,if_false,Bool.false_eq_true]<;>omega
theorem pkB_body {pid count:Nat} {start:Bool} {body:List UInt8}:(pkB pid start count body).drop (if body.length=184 then 4 else 5)=body:=by
 unfold pkB
 split<;>simp
end Go.Proofs.YtibjkhepedfpiaaGreatDoor.PkP
namespace Go.Proofs.YtibjkhepedfpiaaGreatDoor.PkE
open Go Go.RowKit Q Mem Rg Ap St BiP BiW BiF BiA BiG CrB PaR PkP
def wd:List Nat:=[8,1,1,1,13,2,2,4]
structure Wid (b:Nat) (w:World):Prop where
 c: ∀(k x:Nat),wd[k]? =some x→w.cell? ⟨b,k,none⟩=some (.int .i64 (x:Int))
 lt:b<w.heap.size
theorem Wid.below {b B:Nat} {w w':World} (h:Wid b w) (hb:Below B w w') (hB:b<B):Wid b w':=
 ⟨fun k x hk=>(World.cell?_of_block (a:=⟨b,k,none⟩) (hb.block b hB)).trans (h.c k x hk),Nat.lt_of_lt_of_le h.lt hb.size⟩
theorem Wid.be {b:Nat} {w w':World} (h:Wid b w) (hb:Below w.heap.size w w'):Wid b w':=h.below hb h.lt
theorem Wid.ext {b:Nat} {w:World} (h:Wid b w) (p:Ext):Wid b (ext w p):=h.be (below_ext w p)
set_option maxRecDepth 100000
theorem check_any (pid count:Nat) (start:Bool) (body:ByteArray) (w:World) (hp:pid<8192) (hc:count<16) (hb:body.size≤184):
 Calls Tryz.prog 79 #[.agg #[.int .i64 (pid:Int),.bool start,.int .i64 (count:Int),.bool false,.string body]] w fun e w'=>e= .returned (.int .i64 0)∧Below w.heap.size w w':=by
 have t1:decide ((pid:Int)<0)=false:=decide_eq_false (by omega);have t2:decide ((8192:Int)≤(pid:Int))=false:=decide_eq_false (by omega);have t3:decide ((count:Int)<0)=false:=decide_eq_false (by omega);have t4:decide ((15:Int)<(count:Int))=false:=decide_eq_false (by omega);have t5:decide ((184:Int)<(body.size:Int))=false:=decide_eq_false (by omega);have HB:=Lib.hid (bk1 w 69 #[.int .i64 (pid:Int),.bool start,.int .i64 (count:Int),.bool false,.string body]);have c0:=Blk.cell (HB.out.nth 0 rfl) 0 (v:= .int .i64 (pid:Int)) rfl;have c1:=Blk.cell (HB.out.nth 0 rfl) 1 (v:= .bool start) rfl;have c2:=Blk.cell (HB.out.nth 0 rfl) 2 (v:= .int .i64 (count:Int)) rfl;have c3:=Blk.cell (HB.out.nth 0 rfl) 3 (v:= .bool false) rfl;have c4:=Blk.cell (HB.out.nth 0 rfl) 4 (v:= .string body) rfl;obtain⟨p,hpe⟩: ∃p:Int,(pid:Int)=p:=⟨_,rfl⟩;obtain⟨n,hne⟩: ∃n:Int,(count:Int)=n:=⟨_,rfl⟩;rw[hpe]at t1 t2 c0;rw[hne]at t3 t4 c2;rw[hpe,hne]at HB ⊢;clear hp hc hb hpe hne
 go_enter Tryz.func79,Tryz.ntmps79
 go_wp2_with fail
 all_goals
  first
  |(go_ret;exact⟨rfl,HB.out.be⟩)
  |skip
theorem flag_any (b:Bool) (w:World):Calls Tryz.prog 104 #[.bool b] w fun e w'=>e= .returned (.int .i64 (nb b:Int))∧w=w':=by
 cases b
 all_goals
  go_enter Tryz.func104,Tryz.ntmps104
  go_wp2_with fail
  go_ret;exact⟨rfl,rfl⟩
def stf (n:Nat):List UInt8:=if n=184 then[]else[0]
theorem stuffed_any (n:Nat) (w:World) (h:n=184∨n=183):Calls Tryz.prog 107 #[.int .i64 (n:Int)] w fun e w'=>e= .returned (.string (str (stf n)))∧w=w':=by
 rcases h with rfl|rfl
 all_goals
  go_enter Tryz.func107,Tryz.ntmps107
  go_wp2_with fail
  go_ret;exact⟨by kernel_rfl,rfl⟩
theorem otext_list (g B:Nat) (v:Value) (bits:List Bool) (L:List ByteArray) (w:World) (b n:Nat) (hn:L.length=n) (hn2:n≤1000000) (hb:g≠b) (hbs:b<w.heap.size) (hO:OutV w g B v bits)
 (hc: ∀k s,L[k]? =some s→w.cell? ⟨b,k,none⟩=some (.string s)) (hvb: ∀r,v.ownBlock=some r→r≠b)
 (hl: ∀k s,L[k]? =some s→bits.length+8*(((L.take k).map bl).flatten.length+s.size)≤8796093022208):
 Calls Tryz.prog 106 #[.pointer (some ⟨g,0,none⟩),.slice (some ⟨b,0,none⟩) n n] w fun e w'=>e= .returned (.tuple #[])∧ ∃v',OutV w' g B v' (bits++bitsL ((L.map bl).flatten))∧Grow g v w v' w':=by
 have HO:=Lib.hid hO;have HNB:=Lib.hid (And.intro hb (And.intro hvb hbs));have HC:=Lib.hid hc;have HL:=Lib.hid hl;have HN:=Lib.hid hn;clear hO hb hvb hc hl hn hbs
 go_enter Tryz.func106,Tryz.ntmps106
 go_wp2_with fail
 go_loopw [9] (fun i wr=> ∃(q:Nat) (v1:Value),q≤n∧i= .int .i64 q∧Hid (OutV wr g B v1 (bits++bitsL (((L.take q).map bl).flatten))∧Grow g v w v1 wr)) (fun i _=>n-(intOf i).toNat)
 case atStart=>exact⟨0,v,by omega,rfl,Lib.hid ⟨by simpa [bitsL]using HO.out,Grow.refl _ _ _⟩⟩
 case round=>
  obtain⟨q,v1,hq,rfl,hI⟩:=hrel;by_cases hqn:q<n
  ·have t0:decide ((q:Int)<(n:Int))=true:=by simp;omega
   have t0':decide (q<n)=true:=decide_eq_true hqn;obtain⟨s,hs⟩: ∃s,L[q]? =some s:=⟨_,List.getElem?_eq_getElem (by rw[HN.out];exact hqn)⟩;have c0:wr.cell? ⟨b,q,none⟩=some (.string s):=(World.cell?_of_block (a:=⟨b,q,none⟩) (hI.out.2.block b HNB.out.2.2 (fun e=>HNB.out.1 e.symm) (fun e=>HNB.out.2.1 b e.symm rfl))).trans (HC.out q s hs);have k0:(0:Int)≤(q:Int):=Int.natCast_nonneg _;have k1:(q:Int)<(n:Int):=by omega
   have HLs:=Lib.hid (HL.out q s hs);have hsz:s.size≤1099511627776:=by have:=HLs.out;omega
   have HQ:=Lib.hid (show((L.take (q+1)).map bl).flatten=((L.take q).map bl).flatten++bl s from by rw[List.take_add_one,hs];simp);obtain⟨bits1,hbits1⟩: ∃b1,bits++bitsL (((L.take q).map bl).flatten)=b1:=⟨_,rfl⟩;have HBL:=Lib.hid (show bits1.length=bits.length+8*((L.take q).map bl).flatten.length from by rw[←hbits1,List.length_append,bitsL_len]);have HE1:=Lib.hid hbits1;rw[hbits1]at hI;clear hs hbits1
   go_wp2_with fail
   obtain⟨wo,hwo⟩: ∃wo:World,wo=wr:=⟨_,rfl⟩;rw[←hwo]at hI c0
   go_loopw [15] (fun i wr=> ∃(k:Nat) (v':Value),k≤s.size∧i= .int .i64 k∧Hid (OutV wr g B v' (bits1++bitsL ((bl s).take k))∧Grow g v w v' wr)) (fun i _=>s.size-(intOf i).toNat)
   case atStart=>exact⟨0,v1,by omega,rfl,Lib.hid ⟨by rw[←hwo];simpa [bitsL]using hI.out.1,by rw[←hwo];exact hI.out.2⟩⟩
   case round=>
    obtain⟨k,v',hk,rfl,hJ⟩:=hrel;by_cases hks:k<s.size
    ·have t1:decide ((k:Int)<(s.size:Int))=true:=by simp;omega
     obtain⟨c,hcb,hat⟩:=byte_at s k hks;have ix: ∀V:World,(Instr.index 9 (.string s) (.int .i64 (k:Int))).run Tryz.prog V= .ok (.int .u8 (c.toNat:Int)) V:=fun V=>by rw[idx_at s k hks V,hat]
     have hlt:=UInt8.toNat_lt c;have HT:=Lib.hid (show bits1++bitsL ((bl s).take (k+1))=(bits1++bitsL ((bl s).take k))++bitsOf c.toNat 8 by rw[take_snoc hcb,bitsL_snoc,List.append_assoc]);have kp:=put_any g B v' (bits1++bitsL ((bl s).take k)) c.toNat 8 wr hJ.out.1 (by rw[List.length_append,bitsL_len,List.length_take];have:=HLs.out;have:=HBL.out;omega) (by omega) (by decide);rw[show((8:Nat):Int)=8 from rfl]at kp;have q1:IntKind.u64.wrap (c.toNat:Int)=(c.toNat:Int):=by simp[IntKind.wrap,IntKind.bits,IntKind.signed];omega
     obtain⟨m,hm⟩: ∃m,c.toNat=m:=⟨_,rfl⟩;rw[hm]at ix kp q1 HT;have HG:=Lib.hid hJ.out.2;clear hcb hat hlt hJ hm c0
     go_wp2_with fail
     (with_reducible refine(kp).mono ?_);rintro e1 W1 ⟨rfl,v2,hO2,hG2⟩
     have HI:=Lib.hid (show OutV W1 g B v2 (bits1++bitsL ((bl s).take (k+1)))∧Grow g v w v2 W1 from⟨by rw[HT.out];exact hO2,HG.out.trans hG2⟩);clear kp hO2 hG2
     go_wp2_with fail
     go_roundw
     case rel=>exact⟨k+1,v2,by omega,by go_num,HI⟩
     case measure=>simp[intOf];omega
    ·obtain rfl:k=s.size:=by omega
     have t1:decide ((s.size:Int)<(s.size:Int))=false:=by simp
     rw[show(bl s).take s.size=bl s by rw[←bl_len,List.take_length]]at hJ;have HI:=Lib.hid (show OutV wr g B v' (bits++bitsL (((L.take (q+1)).map bl).flatten))∧Grow g v w v' wr from⟨by rw[HQ.out,show bitsL (((L.take q).map bl).flatten++bl s)=bitsL (((L.take q).map bl).flatten)++bitsL (bl s)from by simp[bitsL],←List.append_assoc,HE1.out];exact hJ.out.1,hJ.out.2⟩);clear c0 hJ
     go_wp2_with fail
     go_roundw
     case rel=>exact⟨q+1,v',by omega,by go_num,HI⟩
     case measure=>simp[intOf];omega
  ·obtain rfl:q=n:=by omega
   have t0:decide ((q:Int)<(q:Int))=false:=by simp
   have t0':decide (q<q)=false:=by simp
   have HF:=Lib.hid (show ∃v',OutV wr g B v' (bits++bitsL ((L.map bl).flatten))∧Grow g v w v' wr from⟨v1,by have:=hI.out.1;rwa [List.take_of_length_le (by rw[HN.out];exact Nat.le_refl _)]at this,hI.out.2⟩);clear hI
   go_wp2_with fail
   go_end0
   exact⟨rfl,HF.out⟩
def flds (pid:Nat) (start:Bool) (count what:Nat):List (Nat×Nat):=[(71,8),(0,1),(nb start,1),(0,1),(pid,13),(0,2),(what,2),(count,4)]
def fbits (F:List (Nat×Nat)):List Bool:=F.flatMap fun f=>bitsOf f.1 f.2
theorem fbits_snoc {F:List (Nat×Nat)} {k:Nat} {f:Nat×Nat} (h:F[k]? =some f):fbits (F.take (k+1))=fbits (F.take k)++bitsOf f.1 f.2:=by rw[List.take_add_one,h];simp[fbits]
theorem front_bits (pid count what:Nat) (start:Bool) (b:List UInt8) (hp:pid<8192) (hc:count<16) (hw:what<4):
 pk (fbits (flds pid start count what)++bitsL b)=[71,b8 ((if start then 64 else 0)+pid/256),b8 (pid%256),b8 (16*what+count)]++b:=by
 have hn:=nb_le start
 have e1:bitsOf 0 1++(bitsOf (nb start) 1++(bitsOf 0 1++bitsOf pid 13))=bitsOf (64*nb start+pid/256) 8++bitsOf (pid%256) 8:=by
  rw[bitsOf_join 0 pid 1 13 (by omega),bitsOf_join (nb start) _ 1 14 (by omega),bitsOf_join 0 _ 1 15 (by omega),bitsOf_join _ (pid%256) 8 8 (by omega)];exact congrArg (fun x=>bitsOf x 16) (by omega)
 have e2:bitsOf 0 2++(bitsOf what 2++bitsOf count 4)=bitsOf (16*what+count) 8:=by
  rw[bitsOf_join what count 2 4 (by omega),bitsOf_join 0 _ 2 6 (by omega)];exact congrArg (fun x=>bitsOf x 8) (by omega)
 have hx:fbits (flds pid start count what)=bitsOf 71 8++(bitsOf (64*nb start+pid/256) 8++(bitsOf (pid%256) 8++(bitsOf (16*what+count) 8++[]))):=by
  unfold fbits flds;simp only[List.flatMap_cons,List.flatMap_nil];rw[←List.append_assoc (bitsOf (64*nb start+pid/256) 8),←e1,←e2];simp only[List.append_assoc]
 rw[hx];simp only[List.append_assoc,List.nil_append,pk_cons,pk_bytes];have:64*nb start=if start then 64 else 0:=by cases start<;>rfl
 rw[this];rfl
theorem fbits_len (pid count what:Nat) (start:Bool) (k:Nat):(fbits ((flds pid start count what).take k)).length≤1000:=by
 have: ∀F:List (Nat×Nat),(∀f∈F,f.2≤16)→(fbits F).length≤16*F.length:=by
  intro F hF
  induction F with
  |nil=>simp[fbits]
  |cons f t ih=>
   have h1:=hF f (List.mem_cons_self ..);have h2:=ih (fun x hx=>hF x (List.mem_cons_of_mem _ hx));simp only[fbits,List.flatMap_cons,List.length_append,bitsOf_len,List.length_cons]at h2 ⊢;omega
 have h:=this ((flds pid start count what).take k) (fun f hf=>by
  have:=List.mem_of_mem_take hf;simp[flds]at this;rcases this with rfl|rfl|rfl|rfl|rfl|rfl|rfl|rfl<;>simp)
 have h2:((flds pid start count what).take k).length≤8:=List.length_take_le' k (flds pid start count what);omega
theorem idx_fl (P S N W k:Nat) (Wi:Int) (hW:Wi=(W:Int)) (f:Nat×Nat) (hf:[(71,8),(0,1),(S,1),(0,1),(P,13),(0,2),(W,2),(N,4)][k]? =some f) (V:World):
 (Instr.index 143 (.agg #[.int .i64 71,.int .i64 0,.int .i64 (S:Int),.int .i64 0,.int .i64 (P:Int),.int .i64 0,.int .i64 Wi,.int .i64 (N:Int)]) (.int .i64 (k:Int))).run Tryz.prog V= .ok (.int .i64 (f.1:Int)) V∧wd[k]? =some f.2:=by
 subst hW
 match k,hf with
 |0,hf|1,hf|2,hf|3,hf|4,hf|5,hf|6,hf|7,hf=>(injection hf with hf;rw[←hf];exact⟨by show(_:Result Value)=_;kernel_rfl,rfl⟩)
 |_+8,hf=>simp at hf
theorem fl_le {P S N W k:Nat} {f:Nat×Nat} (hf:[(71,8),(0,1),(S,1),(0,1),(P,13),(0,2),(W,2),(N,4)][k]? =some f) (h:P<65536∧S<65536∧N<65536∧W<65536):f.1<65536∧f.2≤16:=by
 match k,hf with
 |0,hf|1,hf|2,hf|3,hf|4,hf|5,hf|6,hf|7,hf=>injection hf with hf;subst hf;dsimp only;omega
 |_+8,hf=>simp at hf
theorem encode_any (pid count:Nat) (start:Bool) (body:ByteArray) (w:World) (hW:Wid 0 w) (hp:pid<8192) (hc:count<16) (hb:body.size=184∨body.size=183):
 Calls Tryz.prog 72 #[.agg #[.int .i64 (pid:Int),.bool start,.int .i64 (count:Int),.bool false,.string body]] w fun e w'=>e= .returned (.tuple #[.string (str (pkB pid start count (bl body))),.int .i64 0])∧Below w.heap.size w w':=by
 rcases hb with hb|hb
 ·have k1:=fun V=>check_any pid count start body V hp hc (by omega)
  have HX:=Lib.hid (show str (pkB pid start count (bl body))=str (pk (fbits (flds pid start count 1)++bitsL (([str (stf body.size),body].map bl).flatten)))from by
   rw[front_bits _ _ _ _ _ hp hc (by decide)];unfold pkB;simp[bl_str,stf,bl_len,hb])
  have kst: ∀V,Calls Tryz.prog 107 #[.int .i64 (body.size:Int)] V fun e w'=>e= .returned (.string (str (stf body.size)))∧Below V.heap.size V w':=fun V=>(stuffed_any body.size V (by omega)).mono (fun _ _ h=>⟨h.1,h.2▸Below.refl _ _⟩);have HST:=Lib.hid (show(str (stf body.size)).size≤1 from by unfold stf;split<;>simp[str_size]);have hB0:=bk1 w 69 #[.int .i64 (pid:Int),.bool start,.int .i64 (count:Int),.bool false,.string body];have kt: ∀V,Calls Tryz.prog 104 #[.bool true] V fun e w'=>e= .returned (.int .i64 1)∧V=w':=fun V=>flag_any true V;have kz: ∀V,Calls Tryz.prog 104 #[.bool false] V fun e w'=>e= .returned (.int .i64 0)∧V=w':=fun V=>flag_any false V;have hor:bits BinOp.or IntKind.i64 1 0=1:=by rfl
  have kf: ∀V,Calls Tryz.prog 104 #[.bool false] V fun e w'=>e= .returned (.int .i64 0)∧V=w':=fun V=>flag_any false V;have ks:=fun V=>flag_any start V;have hS:=nb_le start;have HFX:=Lib.hid (fbits_len pid count 1 start);have t2:decide ((body.size:Int)<184)=false:=by rw[hb];decide
  have t2':decide (body.size<184)=false:=by rw[hb];decide
  have t3:(body.toList==[])=false:=by
   refine beq_eq_false_iff_ne.2 (fun e=>?_);have h9:body.data.toList.length=0:=by rw[←ByteArray.toList_eq,e];rfl
   rw[Array.length_toList]at h9;have h10:body.size=0:=h9;omega
  have HFL:=Lib.hid (show flds pid start count 1=[(71,8),(0,1),(nb start,1),(0,1),(pid,13),(0,2),(1,2),(count,4)]from rfl);obtain⟨FL,hFL⟩: ∃FL,flds pid start count 1=FL:=⟨_,rfl⟩;rw[hFL]at HFL HX HFX;obtain⟨S,hSe⟩: ∃S,nb start=S:=⟨_,rfl⟩;rw[hSe]at ks hS HFL;have HI:=Lib.hid (fun k=>idx_fl pid S count 1 k 1 rfl);have HLE:=Lib.hid (fun k f hf=>fl_le (P:=pid) (S:=S) (N:=count) (W:=1) (k:=k) (f:=f) hf ⟨by omega,by omega,by omega,by omega⟩);obtain⟨X,hX⟩: ∃X,str (pkB pid start count (bl body))=X:=⟨_,rfl⟩;obtain⟨ST,hST⟩: ∃ST,str (stf body.size)=ST:=⟨_,rfl⟩;rw[hX]at HX ⊢;rw[hST]at HX kst HST;have HB:=Lib.hid hB0;have HWD:=Lib.hid hW;have HBZ:=Lib.hid (show body.size≤184 from by omega);have hpz:(pid:Int)<8192:=by omega
  have hcz:(count:Int)<16:=by omega
  clear hX hST hSe hFL hB0 hb hp hc hW
  go_enter Tryz.func72,Tryz.ntmps72
  go_wp2_with fail
  (with_reducible refine(k1 _).mono ?_);rintro e1 W1 ⟨rfl,hb1⟩
  have HB1:=Lib.hid (HB.out.below hb1);clear k1 HB hb1;have c0:=fun pX=>Blk.cell (blk_ext (HB1.out.nth 0 rfl) pX) 0 (v:= .int .i64 (pid:Int)) rfl;have c1:=fun pX=>Blk.cell (blk_ext (HB1.out.nth 0 rfl) pX) 1 (v:= .bool start) rfl;have c2:=fun pX=>Blk.cell (blk_ext (HB1.out.nth 0 rfl) pX) 2 (v:= .int .i64 (count:Int)) rfl;have c3:=fun pX=>Blk.cell (blk_ext (HB1.out.nth 0 rfl) pX) 3 (v:= .bool false) rfl;have c4:=fun pX=>Blk.cell (blk_ext (HB1.out.nth 0 rfl) pX) 4 (v:= .string body) rfl
  go_wp2_with fail
  refine Go.Proofs.YtibjkhepedfpiaaGreatDoor.Q.region_ext (by kernel_rfl) (by kernel_rfl) ?_
  repeat (go_big_quiet_step ((first|(go_at_call 104;refine ext_call_same (kt _))|(go_at_call 104;refine ext_call_same (kz _)))))
  refine wpQuiet_nil ?_;rintro w9 ⟨pq,rfl⟩;have HB2:=Lib.hid ((HB1.out.px pq).new 213 #[.slice none 0 0,.int .i64 0]);have hgw:=(HB1.out.px pq).size;clear c0 c1 c2 c3 c4;have c0:=fun pX=>Blk.cell (blk_ext (HB2.out.nth 1 rfl) pX) 0 (v:= .int .i64 (pid:Int)) rfl;have c1:=fun pX=>Blk.cell (blk_ext (HB2.out.nth 1 rfl) pX) 1 (v:= .bool start) rfl;have c2:=fun pX=>Blk.cell (blk_ext (HB2.out.nth 1 rfl) pX) 2 (v:= .int .i64 (count:Int)) rfl;have c3:=fun pX=>Blk.cell (blk_ext (HB2.out.nth 1 rfl) pX) 3 (v:= .bool false) rfl;have c4:=fun pX=>Blk.cell (blk_ext (HB2.out.nth 1 rfl) pX) 4 (v:= .string body) rfl
  go_wp2_with fail
  refine Go.Proofs.YtibjkhepedfpiaaGreatDoor.Q.region_ext (by kernel_rfl) (by kernel_rfl) ?_
  repeat (go_big_quiet_step ((first|(go_at_call 104;refine ext_call_same (kf _))|(go_at_call 104;refine ext_call_same (ks _)))))
  refine wpQuiet_nil ?_;rintro w9 ⟨pr,rfl⟩;have HB3:=Lib.hid (HB2.out.px pr);have hg1w:w.heap.size<(ext W1 pq).heap.size:=(HB1.out.px pq).lt 0 rfl;obtain⟨g,hg⟩: ∃g,(ext W1 pq).heap.size=g:=⟨_,rfl⟩;rw[hg]at HB3 hgw hg1w ⊢;obtain⟨W0,hW0⟩: ∃W0,ext ((ext W1 pq).alloc (.cells #[.slice none 0 0,.int .i64 0] 213)) pr=W0:=⟨_,rfl⟩;rw[hW0]at HB3 ⊢;have hg1:g+1≤W0.heap.size:=HB3.out.lt 0 rfl;have HO0:=Lib.hid (show OutV W0 g (g+1) (.slice none 0 0) (fbits (FL.take 0))from⟨HB3.out.nth 0 rfl,by rw[show fbits (FL.take 0)=[] by simp[fbits],show pk []=[]from rfl];exact World.ownsRow_nil _ _ _ _,by omega,hg1⟩);have HW0:=Lib.hid (HWD.out.be HB3.out.be);have hGw:0<w.heap.size:=HWD.out.lt;clear c0 c1 c2 c3 c4 kt kz kf ks hW0 HB2 HB1 hg
  go_wp2_with fail
  go_loopw [38] (fun i wr=> ∃(k:Nat) (v':Value),k≤8∧i= .int .i64 k∧Hid (OutV wr g (g+1) v' (fbits (FL.take k))∧Grow g (.slice none 0 0) W0 v' wr)) (fun i _=>8-(intOf i).toNat)
  case atStart=>exact⟨0,_,by omega,rfl,Lib.hid ⟨HO0.out,Grow.refl _ _ _⟩⟩
  case round=>
   obtain⟨k,v',hk,rfl,hI⟩:=hrel;by_cases hk11:k<8
   ·have t1:decide ((k:Int)<8)=true:=by simp;omega
    obtain⟨f,hf⟩: ∃f,FL[k]? =some f:=⟨_,List.getElem?_eq_getElem (by rw[HFL.out];exact hk11)⟩;have HS:=Lib.hid (fbits_snoc hf);have hlen:=HFX.out k;rw[HFL.out]at hf;have ix:=fun V=>(HI.out k f hf V).1;have hwd:=(HI.out k f hf wr).2;obtain⟨l1,l2⟩:=HLE.out k f hf;obtain⟨x,y⟩:=f;dsimp only at ix hwd l1 l2 HS;have cw:wr.cell? ⟨0,k,none⟩=some (.int .i64 (y:Int)):=(World.cell?_of_block (a:=⟨0,k,none⟩) (hI.out.2.block 0 (by omega) (by omega) (by simp[Value.ownBlock]))).trans (HW0.out.c k y hwd);have kp:=put_any g (g+1) v' (fbits (FL.take k)) x y wr hI.out.1 (by omega) (by omega) (by omega);have q1:IntKind.u64.wrap (x:Int)=(x:Int):=by simp[IntKind.wrap,IntKind.bits,IntKind.signed];omega
    have HG:=Lib.hid hI.out.2;have k0:(0:Int)≤(k:Int):=Int.natCast_nonneg _;have k8:(k:Int)<8:=by omega
    clear hlen hf hI hwd
    go_wp2_with fail
    (with_reducible refine(kp).mono ?_);rintro e1 W2 ⟨rfl,v2,hO2,hG2⟩
    have HI2:=Lib.hid (show OutV W2 g (g+1) v2 (fbits (FL.take (k+1)))∧Grow g (.slice none 0 0) W0 v2 W2 from⟨by rw[HS.out];exact hO2,HG.out.trans hG2⟩);clear kp hO2 hG2 ix HG HS
    go_wp2_with fail
    go_roundw
    case rel=>exact⟨k+1,v2,by omega,by go_num,HI2⟩
    case measure=>simp[intOf];omega
   ·obtain rfl:k=8:=by omega
    have t1:decide (((8:Nat):Int)<8)=false:=by decide
    rw[show FL.take 8=FL by rw[List.take_of_length_le (by rw[HFL.out];exact Nat.le_refl 8)]]at hI
    have hbx:Blk wr w.heap.size 69 #[.int .i64 (pid:Int),.bool start,.int .i64 (count:Int),.bool false,.string body]:=
     (hI.out.2.block _ (by omega) (by omega) (by simp[Value.ownBlock])).trans (HB3.out.nth 1 rfl)
    have c4:=fun pX=>Blk.cell (blk_ext hbx pX) 4 (v:= .string body) rfl;have hwr:=hI.out.1.bw;have hrow:=hI.out.1.row;have hlF:(fbits FL).length≤1000:=by have:=HFX.out 8;rwa [List.take_of_length_le (by rw[HFL.out];exact Nat.le_refl 8)]at this
    clear hbx HI HLE
    go_wp2_with fail
    refine Go.Proofs.YtibjkhepedfpiaaGreatDoor.Rg.region_new [(3,val (.string ST)),(6,newS 2 9 #[.string ST,.string body] wr.heap.size)] 7 (by kernel_rfl) (by kernel_rfl) (by kernel_rfl) (lk_cons val_inh (lk_cons newS_inh lk_nil)) (lk_cons val_mono (lk_cons newS_mono lk_nil)) ?_;intro σ hσ;simp only[List.take_succ_cons,List.take_zero,List.drop_succ_cons,List.drop_zero];have hv3:σ 3= .string ST:=hσ 3 _ rfl;refine Go.Proofs.YtibjkhepedfpiaaGreatDoor.Rg.wpN_take 3 (by kernel_rfl) (by kernel_rfl) (by kernel_rfl) ?_;simp only[List.take_succ_cons,List.take_zero,List.drop_succ_cons,List.drop_zero]
    repeat (go_big_quiet_step (fail))
    refine wpQuiet_nil ?_;refine wpN_sp _ rfl (by kernel_rfl) (spAt_val (f:=107) (args:= #[.int .i64 (body.size:Int)]) (by intro w0;go_simp) (fun p _=>kst _)) ?_;simp only[Act.put,List.setIfInBounds_toArray,List.set_cons_zero,List.set_cons_succ];rw[hv3];refine Go.Proofs.YtibjkhepedfpiaaGreatDoor.Rg.wpN_take 2 (by kernel_rfl) (by kernel_rfl) (by kernel_rfl) ?_;simp only[List.take_succ_cons,List.take_zero,List.drop_succ_cons,List.drop_zero]
    repeat (go_big_quiet_step (fail))
    refine wpQuiet_nil ?_;refine Go.Proofs.YtibjkhepedfpiaaGreatDoor.Rg.wpN_sp _ rfl (by kernel_rfl) (spAt_newS 2 9 #[.string ST,.string body] (Nat.le_refl _) (by intro w0;go_simp)) ?_;simp only[Act.put,List.setIfInBounds_toArray,List.set_cons_zero,List.set_cons_succ];refine Go.Proofs.YtibjkhepedfpiaaGreatDoor.Rg.wpN_nil ?_;rintro w9 ⟨pz,rfl⟩ hpz9;obtain⟨g9,hg9,hge,hb9⟩:=hpz9 6 _ rfl;rw[hg9];have hOx:=hI.out.1.other (only_of_below (below_ext wr pz) none) (by simp) (fun r e=>by cases e);have hz9:=(below_ext wr pz).size
    have kt:=otext_list g (g+1) v' (fbits FL) [ST,body] (ext wr pz) g9 2 rfl (by decide) (by omega) hb9.lt hOx (fun k s hk=>by
     match k,hk with
     |0,hk=>(injection hk with hk;rw[←hk];exact Blk.cell hb9 0 rfl)
     |1,hk=>(injection hk with hk;rw[←hk];exact Blk.cell hb9 1 rfl)
     |_+2,hk=>simp at hk) (fun r e=>by have:=(hrow r e).2;omega) (fun k s hk=>by
     have h1:=HST.out;have h2:=HBZ.out
     match k,hk with
     |0,hk=>(injection hk with hk;rw[←hk];simp;omega)
     |1,hk=>(injection hk with hk;rw[←hk];simp[bl_len];omega)
     |_+2,hk=>simp at hk)
    have HG:=Lib.hid (hI.out.2.other (only_of_below (below_ext wr pz) none) (fun r e=>by cases e));clear hI hOx hb9 hrow hpz9 hg9 hσ hv3 kst
    go_wp2_with fail
    (with_reducible refine(kt).mono ?_);rintro e1 W3 ⟨rfl,v3,hO3,hG3⟩
    have ks:=ostring_any g (g+1) v3 _ W3 hO3;rw[←HX.out]at ks
    have hbe:Below w.heap.size w W3:=by
     have h1:=HB3.out.be;have h2:=HG.out.trans hG3;exact h1.trans (h2.below (by omega) (fun r e=>by simp[Value.ownBlock]at e) h1.size)
    clear kt hO3 hG3 c4 HG
    go_wp2_with fail
    (with_reducible refine(ks).mono ?_);rintro e1 W4 ⟨rfl,rfl⟩
    go_wp2_with fail
    go_ret2
    exact⟨rfl,hbe⟩
 ·have k1:=fun V=>check_any pid count start body V hp hc (by omega)
  have HX:=Lib.hid (show str (pkB pid start count (bl body))=str (pk (fbits (flds pid start count 3)++bitsL (([str (stf body.size),body].map bl).flatten)))from by
   rw[front_bits _ _ _ _ _ hp hc (by decide)];unfold pkB;simp[bl_str,stf,bl_len,hb])
  have kst: ∀V,Calls Tryz.prog 107 #[.int .i64 (body.size:Int)] V fun e w'=>e= .returned (.string (str (stf body.size)))∧Below V.heap.size V w':=fun V=>(stuffed_any body.size V (by omega)).mono (fun _ _ h=>⟨h.1,h.2▸Below.refl _ _⟩);have HST:=Lib.hid (show(str (stf body.size)).size≤1 from by unfold stf;split<;>simp[str_size]);have hB0:=bk1 w 69 #[.int .i64 (pid:Int),.bool start,.int .i64 (count:Int),.bool false,.string body];have kt: ∀V,Calls Tryz.prog 104 #[.bool true] V fun e w'=>e= .returned (.int .i64 1)∧V=w':=fun V=>flag_any true V;have kz: ∀V,Calls Tryz.prog 104 #[.bool true] V fun e w'=>e= .returned (.int .i64 1)∧V=w':=fun V=>flag_any true V;have hor:bits BinOp.or IntKind.i64 1 2=3:=by rfl
  have kf: ∀V,Calls Tryz.prog 104 #[.bool false] V fun e w'=>e= .returned (.int .i64 0)∧V=w':=fun V=>flag_any false V;have ks:=fun V=>flag_any start V;have hS:=nb_le start;have HFX:=Lib.hid (fbits_len pid count 3 start);have t2:decide ((body.size:Int)<184)=true:=by rw[hb];decide
  have t2':decide (body.size<184)=true:=by rw[hb];decide
  have t3:(body.toList==[])=false:=by
   refine beq_eq_false_iff_ne.2 (fun e=>?_);have h9:body.data.toList.length=0:=by rw[←ByteArray.toList_eq,e];rfl
   rw[Array.length_toList]at h9;have h10:body.size=0:=h9;omega
  have HFL:=Lib.hid (show flds pid start count 3=[(71,8),(0,1),(nb start,1),(0,1),(pid,13),(0,2),(3,2),(count,4)]from rfl);obtain⟨FL,hFL⟩: ∃FL,flds pid start count 3=FL:=⟨_,rfl⟩;rw[hFL]at HFL HX HFX;obtain⟨S,hSe⟩: ∃S,nb start=S:=⟨_,rfl⟩;rw[hSe]at ks hS HFL;have HI:=Lib.hid (fun k=>idx_fl pid S count 3 k 3 rfl);have HLE:=Lib.hid (fun k f hf=>fl_le (P:=pid) (S:=S) (N:=count) (W:=3) (k:=k) (f:=f) hf ⟨by omega,by omega,by omega,by omega⟩);obtain⟨X,hX⟩: ∃X,str (pkB pid start count (bl body))=X:=⟨_,rfl⟩;obtain⟨ST,hST⟩: ∃ST,str (stf body.size)=ST:=⟨_,rfl⟩;rw[hX]at HX ⊢;rw[hST]at HX kst HST;have HB:=Lib.hid hB0;have HWD:=Lib.hid hW;have HBZ:=Lib.hid (show body.size≤184 from by omega);have hpz:(pid:Int)<8192:=by omega
  have hcz:(count:Int)<16:=by omega
  clear hX hST hSe hFL hB0 hb hp hc hW
  go_enter Tryz.func72,Tryz.ntmps72
  go_wp2_with fail
  (with_reducible refine(k1 _).mono ?_);rintro e1 W1 ⟨rfl,hb1⟩
  have HB1:=Lib.hid (HB.out.below hb1);clear k1 HB hb1;have c0:=fun pX=>Blk.cell (blk_ext (HB1.out.nth 0 rfl) pX) 0 (v:= .int .i64 (pid:Int)) rfl;have c1:=fun pX=>Blk.cell (blk_ext (HB1.out.nth 0 rfl) pX) 1 (v:= .bool start) rfl;have c2:=fun pX=>Blk.cell (blk_ext (HB1.out.nth 0 rfl) pX) 2 (v:= .int .i64 (count:Int)) rfl;have c3:=fun pX=>Blk.cell (blk_ext (HB1.out.nth 0 rfl) pX) 3 (v:= .bool false) rfl;have c4:=fun pX=>Blk.cell (blk_ext (HB1.out.nth 0 rfl) pX) 4 (v:= .string body) rfl
  go_wp2_with fail
  refine Go.Proofs.YtibjkhepedfpiaaGreatDoor.Q.region_ext (by kernel_rfl) (by kernel_rfl) ?_
  repeat (go_big_quiet_step ((first|(go_at_call 104;refine ext_call_same (kt _))|(go_at_call 104;refine ext_call_same (kz _)))))
  refine wpQuiet_nil ?_;rintro w9 ⟨pq,rfl⟩;have HB2:=Lib.hid ((HB1.out.px pq).new 213 #[.slice none 0 0,.int .i64 0]);have hgw:=(HB1.out.px pq).size;clear c0 c1 c2 c3 c4;have c0:=fun pX=>Blk.cell (blk_ext (HB2.out.nth 1 rfl) pX) 0 (v:= .int .i64 (pid:Int)) rfl;have c1:=fun pX=>Blk.cell (blk_ext (HB2.out.nth 1 rfl) pX) 1 (v:= .bool start) rfl;have c2:=fun pX=>Blk.cell (blk_ext (HB2.out.nth 1 rfl) pX) 2 (v:= .int .i64 (count:Int)) rfl;have c3:=fun pX=>Blk.cell (blk_ext (HB2.out.nth 1 rfl) pX) 3 (v:= .bool false) rfl;have c4:=fun pX=>Blk.cell (blk_ext (HB2.out.nth 1 rfl) pX) 4 (v:= .string body) rfl
  go_wp2_with fail
  refine Go.Proofs.YtibjkhepedfpiaaGreatDoor.Q.region_ext (by kernel_rfl) (by kernel_rfl) ?_
  repeat (go_big_quiet_step ((first|(go_at_call 104;refine ext_call_same (kf _))|(go_at_call 104;refine ext_call_same (ks _)))))
  refine wpQuiet_nil ?_;rintro w9 ⟨pr,rfl⟩;have HB3:=Lib.hid (HB2.out.px pr);have hg1w:w.heap.size<(ext W1 pq).heap.size:=(HB1.out.px pq).lt 0 rfl;obtain⟨g,hg⟩: ∃g,(ext W1 pq).heap.size=g:=⟨_,rfl⟩;rw[hg]at HB3 hgw hg1w ⊢;obtain⟨W0,hW0⟩: ∃W0,ext ((ext W1 pq).alloc (.cells #[.slice none 0 0,.int .i64 0] 213)) pr=W0:=⟨_,rfl⟩;rw[hW0]at HB3 ⊢;have hg1:g+1≤W0.heap.size:=HB3.out.lt 0 rfl;have HO0:=Lib.hid (show OutV W0 g (g+1) (.slice none 0 0) (fbits (FL.take 0))from⟨HB3.out.nth 0 rfl,by rw[show fbits (FL.take 0)=[] by simp[fbits],show pk []=[]from rfl];exact World.ownsRow_nil _ _ _ _,by omega,hg1⟩);have HW0:=Lib.hid (HWD.out.be HB3.out.be);have hGw:0<w.heap.size:=HWD.out.lt;clear c0 c1 c2 c3 c4 kt kz kf ks hW0 HB2 HB1 hg
  go_wp2_with fail
  go_loopw [38] (fun i wr=> ∃(k:Nat) (v':Value),k≤8∧i= .int .i64 k∧Hid (OutV wr g (g+1) v' (fbits (FL.take k))∧Grow g (.slice none 0 0) W0 v' wr)) (fun i _=>8-(intOf i).toNat)
  case atStart=>exact⟨0,_,by omega,rfl,Lib.hid ⟨HO0.out,Grow.refl _ _ _⟩⟩
  case round=>
   obtain⟨k,v',hk,rfl,hI⟩:=hrel;by_cases hk11:k<8
   ·have t1:decide ((k:Int)<8)=true:=by simp;omega
    obtain⟨f,hf⟩: ∃f,FL[k]? =some f:=⟨_,List.getElem?_eq_getElem (by rw[HFL.out];exact hk11)⟩;have HS:=Lib.hid (fbits_snoc hf);have hlen:=HFX.out k;rw[HFL.out]at hf;have ix:=fun V=>(HI.out k f hf V).1;have hwd:=(HI.out k f hf wr).2;obtain⟨l1,l2⟩:=HLE.out k f hf;obtain⟨x,y⟩:=f;dsimp only at ix hwd l1 l2 HS;have cw:wr.cell? ⟨0,k,none⟩=some (.int .i64 (y:Int)):=(World.cell?_of_block (a:=⟨0,k,none⟩) (hI.out.2.block 0 (by omega) (by omega) (by simp[Value.ownBlock]))).trans (HW0.out.c k y hwd);have kp:=put_any g (g+1) v' (fbits (FL.take k)) x y wr hI.out.1 (by omega) (by omega) (by omega);have q1:IntKind.u64.wrap (x:Int)=(x:Int):=by simp[IntKind.wrap,IntKind.bits,IntKind.signed];omega
    have HG:=Lib.hid hI.out.2;have k0:(0:Int)≤(k:Int):=Int.natCast_nonneg _;have k8:(k:Int)<8:=by omega
    clear hlen hf hI hwd
    go_wp2_with fail
    (with_reducible refine(kp).mono ?_);rintro e1 W2 ⟨rfl,v2,hO2,hG2⟩
    have HI2:=Lib.hid (show OutV W2 g (g+1) v2 (fbits (FL.take (k+1)))∧Grow g (.slice none 0 0) W0 v2 W2 from⟨by rw[HS.out];exact hO2,HG.out.trans hG2⟩);clear kp hO2 hG2 ix HG HS
    go_wp2_with fail
    go_roundw
    case rel=>exact⟨k+1,v2,by omega,by go_num,HI2⟩
    case measure=>simp[intOf];omega
   ·obtain rfl:k=8:=by omega
    have t1:decide (((8:Nat):Int)<8)=false:=by decide
    rw[show FL.take 8=FL by rw[List.take_of_length_le (by rw[HFL.out];exact Nat.le_refl 8)]]at hI
    have hbx:Blk wr w.heap.size 69 #[.int .i64 (pid:Int),.bool start,.int .i64 (count:Int),.bool false,.string body]:=
     (hI.out.2.block _ (by omega) (by omega) (by simp[Value.ownBlock])).trans (HB3.out.nth 1 rfl)
    have c4:=fun pX=>Blk.cell (blk_ext hbx pX) 4 (v:= .string body) rfl;have hwr:=hI.out.1.bw;have hrow:=hI.out.1.row;have hlF:(fbits FL).length≤1000:=by have:=HFX.out 8;rwa [List.take_of_length_le (by rw[HFL.out];exact Nat.le_refl 8)]at this
    clear hbx HI HLE
    go_wp2_with fail
    refine Go.Proofs.YtibjkhepedfpiaaGreatDoor.Rg.region_new [(3,val (.string ST)),(6,newS 2 9 #[.string ST,.string body] wr.heap.size)] 7 (by kernel_rfl) (by kernel_rfl) (by kernel_rfl) (lk_cons val_inh (lk_cons newS_inh lk_nil)) (lk_cons val_mono (lk_cons newS_mono lk_nil)) ?_;intro σ hσ;simp only[List.take_succ_cons,List.take_zero,List.drop_succ_cons,List.drop_zero];have hv3:σ 3= .string ST:=hσ 3 _ rfl;refine Go.Proofs.YtibjkhepedfpiaaGreatDoor.Rg.wpN_take 3 (by kernel_rfl) (by kernel_rfl) (by kernel_rfl) ?_;simp only[List.take_succ_cons,List.take_zero,List.drop_succ_cons,List.drop_zero]
    repeat (go_big_quiet_step (fail))
    refine wpQuiet_nil ?_;refine wpN_sp _ rfl (by kernel_rfl) (spAt_val (f:=107) (args:= #[.int .i64 (body.size:Int)]) (by intro w0;go_simp) (fun p _=>kst _)) ?_;simp only[Act.put,List.setIfInBounds_toArray,List.set_cons_zero,List.set_cons_succ];rw[hv3];refine Go.Proofs.YtibjkhepedfpiaaGreatDoor.Rg.wpN_take 2 (by kernel_rfl) (by kernel_rfl) (by kernel_rfl) ?_;simp only[List.take_succ_cons,List.take_zero,List.drop_succ_cons,List.drop_zero]
    repeat (go_big_quiet_step (fail))
    refine wpQuiet_nil ?_;refine Go.Proofs.YtibjkhepedfpiaaGreatDoor.Rg.wpN_sp _ rfl (by kernel_rfl) (spAt_newS 2 9 #[.string ST,.string body] (Nat.le_refl _) (by intro w0;go_simp)) ?_;simp only[Act.put,List.setIfInBounds_toArray,List.set_cons_zero,List.set_cons_succ];refine Go.Proofs.YtibjkhepedfpiaaGreatDoor.Rg.wpN_nil ?_;rintro w9 ⟨pz,rfl⟩ hpz9;obtain⟨g9,hg9,hge,hb9⟩:=hpz9 6 _ rfl;rw[hg9];have hOx:=hI.out.1.other (only_of_below (below_ext wr pz) none) (by simp) (fun r e=>by cases e);have hz9:=(below_ext wr pz).size
    have kt:=otext_list g (g+1) v' (fbits FL) [ST,body] (ext wr pz) g9 2 rfl (by decide) (by omega) hb9.lt hOx (fun k s hk=>by
     match k,hk with
     |0,hk=>(injection hk with hk;rw[←hk];exact Blk.cell hb9 0 rfl)
     |1,hk=>(injection hk with hk;rw[←hk];exact Blk.cell hb9 1 rfl)
     |_+2,hk=>simp at hk) (fun r e=>by have:=(hrow r e).2;omega) (fun k s hk=>by
     have h1:=HST.out;have h2:=HBZ.out
     match k,hk with
     |0,hk=>(injection hk with hk;rw[←hk];simp;omega)
     |1,hk=>(injection hk with hk;rw[←hk];simp[bl_len];omega)
     |_+2,hk=>simp at hk)
    have HG:=Lib.hid (hI.out.2.other (only_of_below (below_ext wr pz) none) (fun r e=>by cases e));clear hI hOx hb9 hrow hpz9 hg9 hσ hv3 kst
    go_wp2_with fail
    (with_reducible refine(kt).mono ?_);rintro e1 W3 ⟨rfl,v3,hO3,hG3⟩
    have ks:=ostring_any g (g+1) v3 _ W3 hO3;rw[←HX.out]at ks
    have hbe:Below w.heap.size w W3:=by
     have h1:=HB3.out.be;have h2:=HG.out.trans hG3;exact h1.trans (h2.below (by omega) (fun r e=>by simp[Value.ownBlock]at e) h1.size)
    clear kt hO3 hG3 c4 HG
    go_wp2_with fail
    (with_reducible refine(ks).mono ?_);rintro e1 W4 ⟨rfl,rfl⟩
    go_wp2_with fail
    go_ret2
    exact⟨rfl,hbe⟩
end Go.Proofs.YtibjkhepedfpiaaGreatDoor.PkE
namespace Go.Proofs.YtibjkhepedfpiaaGreatDoor.RdP
abbrev Bs:=List UInt8
def wh (s:Bs):Nat:=if s.length<3 then 0 else 3+(s.getD 1 0).toNat%16*256+(s.getD 2 0).toNat
structure Sec (s:Bs):Prop where
 len:3≤s.length
 wh:wh s=s.length
 no: ∀t,s≠255::t
theorem wh_pre {s x y:Bs} (h:3≤s.length) (e:s++x=y):wh y=wh s:=by
 subst e;unfold wh;rw[if_neg (by simp;omega),if_neg (by omega)];have h1:(s++x).getD 1 0=s.getD 1 0:=by rw[List.getD_eq_getElem?_getD,List.getD_eq_getElem?_getD,List.getElem?_append_left (by omega)]
 have h2:(s++x).getD 2 0=s.getD 2 0:=by rw[List.getD_eq_getElem?_getD,List.getD_eq_getElem?_getD,List.getElem?_append_left (by omega)]
 rw[h1,h2]
theorem wh_take {s:Bs} {m:Nat} (h:3≤m) (hm:m≤s.length):wh (s.take m)=wh s:=
 (wh_pre (s:=s.take m) (by rw[List.length_take];omega) (List.take_append_drop m s)).symm
def rdRest:Nat→Bs→List Bs×Bs
 |0,_=>([],[])
 |_+1,[]=>([],[])
 |f+1,c::t=>if c=255 then([],[])else if wh (c::t)=0∨(c::t).length<wh (c::t)then([],c::t)else
   ((c::t).take (wh (c::t))::(rdRest f ((c::t).drop (wh (c::t)))).1,(rdRest f ((c::t).drop (wh (c::t)))).2)
def dl:Nat→List Bs→Bs×List Bs
 |_,[]=>([],[])
 |m,s::t=>if m=0 then([],s::t)else if m<s.length then(s.drop m,t)else dl (m-s.length) t
def cur (h r:Bs):List Bs:=if r=[]then[]else[h++r]
theorem rest_ok: ∀(l:List Bs) (m q f:Nat),(∀s∈l,Sec s)→(q=0∨l.flatten.length≤m)→(l.flatten.take m++List.replicate q (255:UInt8)).length<f→
 l=(rdRest f (l.flatten.take m++List.replicate q 255)).1++cur (rdRest f (l.flatten.take m++List.replicate q 255)).2 (dl m l).1++(dl m l).2∧
 ((dl m l).1=[]↔(rdRest f (l.flatten.take m++List.replicate q 255)).2=[])
 |[],m,q,f+1,_,_,_=>by
  cases q with
  |zero=>simp[rdRest,dl,cur]
  |succ q=>simp[rdRest,dl,cur,List.replicate_succ]
 |s::t,m,q,f+1,hs,hq,hf=>by
  have hsec:=hs s (by simp);have h3:=hsec.len;rcases Nat.eq_zero_or_pos m with h0|h0
  ·subst h0
   have hq0:q=0:=by
    rcases hq with h|h
    ·exact h
    ·rw[List.flatten_cons,List.length_append]at h;omega
   subst hq0;simp[rdRest,dl,cur]
  ·rcases Nat.lt_or_ge m s.length with hm|hm
   ·have hq0:q=0:=by
     rcases hq with h|h
     ·exact h
     ·rw[List.flatten_cons,List.length_append]at h;omega
    subst hq0
    have e:(s::t).flatten.take m++List.replicate 0 (255:UInt8)=s.take m:=by
     rw[List.flatten_cons,List.take_append_of_le_length (by omega)];simp
    rw[e];have hd:dl m (s::t)=(s.drop m,t):=by rw[dl,if_neg (by omega),if_pos hm]
    rw[hd];have hne:s.drop m≠[]:=by intro h;have:=congrArg List.length h;simp at this;omega
    obtain⟨c,x,hcx⟩: ∃c x,s.take m=c::x:=by
     cases h:s.take m with
     |nil=>have:=congrArg List.length h;rw[List.length_take,List.length_nil]at this;omega
     |cons c x=>exact⟨c,x,rfl⟩
    have hc:c≠255:=by
     intro h;subst h;refine hsec.no (x++s.drop m) ?_;rw[←List.cons_append,←hcx,List.take_append_drop]
    have hr:rdRest (f+1) (s.take m)=([],s.take m):=by
     rw[hcx,rdRest,if_neg hc,←hcx,if_pos];rcases Nat.lt_or_ge m 3 with h|h
     ·left;unfold wh;rw[if_pos (by rw[List.length_take];omega)]
     ·right;rw[wh_take h (by omega),hsec.wh,List.length_take];omega
    rw[hr];refine⟨?_,?_⟩
    ·simp[cur,hne,List.take_append_drop]
    ·constructor
     ·intro h;exact absurd h hne
     ·intro h;rw[hcx]at h;cases h
   ·have e:(s::t).flatten.take m++List.replicate q (255:UInt8)=s++(t.flatten.take (m-s.length)++List.replicate q 255):=by
     rw[List.flatten_cons,List.take_append,List.take_of_length_le hm,List.append_assoc]
    rw[e]at hf ⊢;obtain⟨y,hy⟩: ∃y,t.flatten.take (m-s.length)++List.replicate q (255:UInt8)=y:=⟨_,rfl⟩;have ih:=rest_ok t (m-s.length) q f (fun z hz=>hs z (by simp[hz])) (hq.imp id (fun h=>by simp at h ⊢;omega)) (by rw[hy]at hf ⊢;simp at hf;omega);rw[hy]at hf ih ⊢;have hd:dl m (s::t)=dl (m-s.length) t:=by rw[dl,if_neg (by omega),if_neg (by omega)]
    rw[hd]
    obtain⟨c,x,hcx⟩: ∃c x,s=c::x:=by
     cases h:s with
     |nil=>rw[h]at h3;simp at h3
     |cons c x=>exact⟨c,x,rfl⟩
    have hc:c≠255:=fun h=>hsec.no x (by rw[hcx,h]);have hw:wh (s++y)=s.length:=(wh_pre h3 rfl).trans hsec.wh
    have hr:rdRest (f+1) (s++y)=(s::(rdRest f y).1,(rdRest f y).2):=by
     have:s++y=c::(x++y):=by rw[hcx];rfl
     rw[this,rdRest,if_neg hc,←this,hw,if_neg (by rw[List.length_append];omega),List.take_left,List.drop_left]
    rw[hr];refine⟨?_,ih.2⟩;have h1:=ih.1;rw[List.cons_append,List.cons_append,←h1]
 |_,_,_,0,_,_,h=>by omega
def startQ (r:Bs) (l:List Bs):Bool:= !(decide (183≤r.length)||(decide (0<r.length)&&decide (l.length=0)))
def bodyQ (r:Bs) (l:List Bs):Bs:=
 if startQ r l then(UInt8.ofNat r.length::(r++l.flatten).take 183)++List.replicate (184-(1+((r++l.flatten).take 183).length)) 255
 else r.take 184++List.replicate (if r.length<183 then 184-r.length else 0) 255
def stepQ (r:Bs) (l:List Bs):Bs×List Bs:=if startQ r l then dl (183-r.length) l else(r.drop 184,l)
structure Rd where
 ok:Prop
 texts:List Bs
 held:Bs
def done (h:Bs):Bool:=decide (0<wh h∧wh h≤h.length)
def rdPkt (h:Bs) (start:Bool) (b:Bs):Rd:=
 if start then
  {ok:=(b.getD 0 0).toNat+1≤b.length∧ ¬(h=[]∧(b.drop 1).take (b.getD 0 0).toNat≠[])∧(done (h++(b.drop 1).take (b.getD 0 0).toNat)=true→wh (h++(b.drop 1).take (b.getD 0 0).toNat)=(h++(b.drop 1).take (b.getD 0 0).toNat).length)∧(done (h++(b.drop 1).take (b.getD 0 0).toNat)=false→h++(b.drop 1).take (b.getD 0 0).toNat=[])
   texts:=(if done (h++(b.drop 1).take (b.getD 0 0).toNat)then[h++(b.drop 1).take (b.getD 0 0).toNat]else[])++(rdRest ((b.drop ((b.getD 0 0).toNat+1)).length+1) (b.drop ((b.getD 0 0).toNat+1))).1
   held:=(rdRest ((b.drop ((b.getD 0 0).toNat+1)).length+1) (b.drop ((b.getD 0 0).toNat+1))).2}
 else
  {ok:= ¬(h=[]∧b≠[])∧(done (h++b)=true→wh (h++b)<(h++b).length→(h++b)[wh (h++b)]? =some 255)
   texts:=if done (h++b)then[(h++b).take (wh (h++b))]else[]
   held:=if done (h++b)then[]else h++b}
structure Inv (h r:Bs) (l:List Bs):Prop where
 l: ∀s∈l,Sec s
 yes:r≠[]→h≠[]∧Sec (h++r)
 no:r=[]→h=[]
theorem dl_sub: ∀(l:List Bs) (m:Nat),(∀s∈(dl m l).2,s∈l)∧((dl m l).1=[]∨ ∃s∈l,∃k,k≤s.length∧(dl m l).1=s.drop k)
 |[],m=>⟨fun s hs=>by simp[dl]at hs,Or.inl rfl⟩
 |s::t,m=>by
  rw[dl]
  split
  ·exact⟨fun x hx=>hx,Or.inl rfl⟩
  ·split
   ·exact⟨fun x hx=>List.mem_cons_of_mem _ hx,Or.inr ⟨s,by simp,m,by omega,rfl⟩⟩
   ·obtain⟨h1,h2⟩:=dl_sub t (m-s.length)
    exact⟨fun x hx=>List.mem_cons_of_mem _ (h1 x hx),h2.imp id (fun⟨x,hx,k,hk⟩=>⟨x,List.mem_cons_of_mem _ hx,k,hk⟩)⟩
theorem sec_done {s:Bs} (h:Sec s):done s=true:=by
 unfold done;rw[h.wh];exact decide_eq_true ⟨by have:=h.len;omega,Nat.le_refl _⟩
theorem pkt_ok {h r:Bs} {l:List Bs} (hi:Inv h r l) (_hne:r≠[]∨l≠[]):
 (rdPkt h (startQ r l) (bodyQ r l)).ok∧cur h r++l=(rdPkt h (startQ r l) (bodyQ r l)).texts++cur (rdPkt h (startQ r l) (bodyQ r l)).held (stepQ r l).1++(stepQ r l).2∧Inv (rdPkt h (startQ r l) (bodyQ r l)).held (stepQ r l).1 (stepQ r l).2:=by
 cases hs:startQ r l with
 |true=>
  have hr:r.length<183:=by
   unfold startQ at hs;simp at hs;omega
  have hb:bodyQ r l=(UInt8.ofNat r.length::(r++l.flatten).take 183)++List.replicate (184-(1+((r++l.flatten).take 183).length)) 255:=by unfold bodyQ;rw[hs,if_pos rfl]
  have hst:stepQ r l=dl (183-r.length) l:=by unfold stepQ;rw[hs,if_pos rfl]
  have hX:(r++l.flatten).take 183=r++l.flatten.take (183-r.length):=by rw[List.take_append,List.take_of_length_le (by omega)]
  obtain⟨q,hq⟩: ∃q,184-(1+((r++l.flatten).take 183).length)=q:=⟨_,rfl⟩
  have hq2:q=0∨l.flatten.length≤183-r.length:=by
   rw[←hq,List.length_take,List.length_append];omega
  rw[hq,hX]at hb;rw[hst];obtain⟨b,hbb⟩: ∃b,bodyQ r l=b:=⟨_,rfl⟩;rw[hbb]at hb ⊢
  have hn:(b.getD 0 0).toNat=r.length:=by
   rw[hb];show(UInt8.ofNat r.length).toNat=_;rw[UInt8.toNat_ofNat'];omega
  have hbody:(b.drop 1).take r.length=r:=by
   rw[hb];show((r++l.flatten.take (183-r.length))++List.replicate q 255).take r.length=r;rw[List.append_assoc,List.take_left]
  have hrest:b.drop (r.length+1)=l.flatten.take (183-r.length)++List.replicate q 255:=by
   rw[hb];show((r++l.flatten.take (183-r.length))++List.replicate q 255).drop r.length=_;rw[List.append_assoc,List.drop_left]
  have hlen:r.length+1≤b.length:=by
   rw[hb];simp
  have hro:=rest_ok l (183-r.length) q ((l.flatten.take (183-r.length)++List.replicate q (255:UInt8)).length+1) hi.l hq2 (by omega);unfold rdPkt;rw[if_pos rfl];dsimp only;rw[hn,hbody,hrest];obtain⟨R,hR⟩: ∃R,rdRest ((l.flatten.take (183-r.length)++List.replicate q (255:UInt8)).length+1) (l.flatten.take (183-r.length)++List.replicate q 255)=R:=⟨_,rfl⟩;rw[hR]at hro ⊢
  have hinv:Inv R.2 (dl (183-r.length) l).1 (dl (183-r.length) l).2:=by
   obtain⟨d1,d2⟩:=dl_sub l (183-r.length);refine⟨fun s h=>hi.l s (d1 s h),fun hne=>⟨fun e=>hne (hro.2.2 e),?_⟩,fun e=>hro.2.1 e⟩;refine hi.l _ ?_;have h1:=hro.1;unfold cur at h1;rw[if_neg hne]at h1;obtain⟨D,hD⟩: ∃D,dl (183-r.length) l=D:=⟨_,rfl⟩;rw[hD]at h1 ⊢;rw[h1];simp
  by_cases hr0:r=[]
  ·subst hr0
   have hh:=hi.no rfl;subst hh;refine⟨⟨hlen,by simp,fun e=>by simp[done]at e ⊢;simp[wh],fun _=>rfl⟩,?_,hinv⟩;have hd:done (([]:Bs)++[])=false:=by simp[done,wh]
   rw[hd,if_neg (by decide),List.nil_append];show[]++l=_;rw[List.nil_append];exact hro.1
  ·obtain⟨y1,y2⟩:=hi.yes hr0
   have hd:=sec_done y2;refine⟨⟨hlen,fun e=>y1 e.1,fun _=>y2.wh,fun e=>by rw[hd]at e;cases e⟩,?_,hinv⟩;rw[hd,if_pos rfl];unfold cur;rw[if_neg hr0,List.singleton_append,List.singleton_append,List.cons_append,List.cons_append]
   congr 1
   exact hro.1
 |false=>
  have hr:183≤r.length∨(0<r.length∧l=[]):=by
   unfold startQ at hs;simp at hs;rcases Nat.lt_or_ge r.length 183 with h|h
   ·right
    have:=hs h
    exact⟨by cases r with
     |nil=>simp at this
     |cons=>simp,this.2⟩
   ·exact Or.inl h
  have hr0:r≠[]:=by rintro rfl;simp at hr
  obtain⟨y1,y2⟩:=hi.yes hr0;have hb:bodyQ r l=r.take 184++List.replicate (if r.length<183 then 184-r.length else 0) 255:=by unfold bodyQ;rw[hs,if_neg (by decide)]
  have hst:stepQ r l=(r.drop 184,l):=by unfold stepQ;rw[hs,if_neg (by decide)]
  rw[hst,hb];unfold rdPkt;rw[if_neg (by decide)];dsimp only;obtain⟨k,hk⟩: ∃k,(if r.length<183 then 184-r.length else 0)=k:=⟨_,rfl⟩;rw[hk];rcases Nat.lt_or_ge 184 r.length with h1|h1
  ·have hk0:k=0:=by rw[←hk,if_neg (by omega)]
   subst hk0
   have e:h++(r.take 184++List.replicate 0 (255:UInt8))=(h++r).take (h.length+184):=by
    rw[List.take_length_add_append];simp
   have hw:wh (h++(r.take 184++List.replicate 0 (255:UInt8)))=(h++r).length:=by
    rw[e,wh_take (by omega) (by simp;omega),y2.wh]
   have hd:done (h++(r.take 184++List.replicate 0 (255:UInt8)))=false:=by
    unfold done;rw[hw];refine decide_eq_false (fun hc=>?_);have:=hc.2;rw[e,List.length_take]at this;simp at this;omega
   rw[hd,if_neg (by decide),if_neg (by decide)];have hne:r.drop 184≠[]:=by intro h;have:=congrArg List.length h;simp at this;omega
   have e2:h++(r.take 184++List.replicate 0 (255:UInt8))++r.drop 184=h++r:=by simp[List.take_append_drop]
   refine⟨⟨fun hc=>y1 hc.1,fun e=>by cases e⟩,?_,⟨hi.l,fun _=>⟨fun e=>y1 (List.append_eq_nil_iff.1 e).1,by rw[e2];exact y2⟩,fun e=>absurd e hne⟩⟩;unfold cur;rw[if_neg hr0,if_neg hne,e2];simp
  ·have e:r.take 184=r:=List.take_of_length_le h1
   rw[e]
   have hw:wh (h++(r++List.replicate k (255:UInt8)))=(h++r).length:=by
    rw[←List.append_assoc,wh_pre y2.len rfl,y2.wh]
   have hd:done (h++(r++List.replicate k (255:UInt8)))=true:=by
    unfold done;rw[hw];have:=y2.len;exact decide_eq_true ⟨by omega,by simp only[List.length_append];omega⟩
   rw[hd,if_pos rfl,if_pos rfl,hw];have hdr:r.drop 184=[]:=List.drop_eq_nil_of_le h1;rw[hdr];refine⟨⟨fun hc=>y1 hc.1,fun _ hlt=>?_⟩,?_,⟨hi.l,fun e=>absurd rfl e,fun _=>rfl⟩⟩
   ·simp only[List.length_append,List.length_replicate]at hlt
    rw[←List.append_assoc,List.getElem?_append_right (Nat.le_refl _),Nat.sub_self,List.getElem?_replicate,if_pos (by omega)]
   ·unfold cur
    rw[if_neg hr0,if_pos rfl,←List.append_assoc,List.take_left];simp
def stQ (L:List Bs):Nat→Bs×List Bs
 |0=>([],L)
 |k+1=>stepQ (stQ L k).1 (stQ L k).2
def rdI (L:List Bs):Nat→List Bs×Bs
 |0=>([],[])
 |k+1=>((rdI L k).1++(rdPkt (rdI L k).2 (startQ (stQ L k).1 (stQ L k).2) (bodyQ (stQ L k).1 (stQ L k).2)).texts,(rdPkt (rdI L k).2 (startQ (stQ L k).1 (stQ L k).2) (bodyQ (stQ L k).1 (stQ L k).2)).held)
def more (L:List Bs) (k:Nat):Prop:=(stQ L k).1≠[]∨(stQ L k).2≠[]
theorem read_ok {L:List Bs} (hL: ∀s∈L,Sec s): ∀k,(∀j,j<k→more L j)→Inv (rdI L k).2 (stQ L k).1 (stQ L k).2∧L=(rdI L k).1++cur (rdI L k).2 (stQ L k).1++(stQ L k).2
 |0,_=>⟨⟨hL,fun h=>absurd rfl h,fun _=>rfl⟩,rfl⟩
 |k+1,h=>by
  obtain⟨h1,h2⟩:=read_ok hL k (fun j hj=>h j (by omega));obtain⟨_,p2,p3⟩:=pkt_ok h1 (h k (by omega));refine⟨p3,?_⟩;show L=_++_++_++_;rw[List.append_assoc,List.append_assoc,←List.append_assoc (rdPkt _ _ _).texts];show L=(rdI L k).1++((rdPkt (rdI L k).2 (startQ (stQ L k).1 (stQ L k).2) (bodyQ (stQ L k).1 (stQ L k).2)).texts++cur (rdPkt (rdI L k).2 (startQ (stQ L k).1 (stQ L k).2) (bodyQ (stQ L k).1 (stQ L k).2)).held (stepQ (stQ L k).1 (stQ L k).2).1++(stepQ (stQ L k).1 (stQ L k).2).2);rw[←p2,←List.append_assoc];exact h2
theorem read_end {L:List Bs} (hL: ∀s∈L,Sec s) (k:Nat) (h: ∀j,j<k→more L j) (he: ¬more L k):(rdI L k).1=L∧(rdI L k).2=[]:=by
 obtain⟨h1,h2⟩:=read_ok hL k h;have e1:(stQ L k).1=[]:=Classical.byContradiction fun e=>he (Or.inl e);have e2:(stQ L k).2=[]:=Classical.byContradiction fun e=>he (Or.inr e);rw[e1,e2]at h2;exact⟨by rw[show cur (rdI L k).2 []=[]from if_pos rfl,List.append_nil,List.append_nil]at h2;exact h2.symm,h1.no e1⟩
def rdStep (s:List Bs×Bs) (p:Bool×Bs):List Bs×Bs:=(s.1++(rdPkt s.2 p.1 p.2).texts,(rdPkt s.2 p.1 p.2).held)
structure Bst (L:List Bs) (K:Nat):Prop where
 sec: ∀s∈L,Sec s
 more: ∀j,j<K→more L j
 last: ¬RdP.more L K
end Go.Proofs.YtibjkhepedfpiaaGreatDoor.RdP
namespace Go.Proofs.YtibjkhepedfpiaaGreatDoor.RdQ
open Go St PaP PaT PaN PaK RdP
theorem start_q (r:ByteArray) (l:List ByteArray):startB r l=startQ (bl r) (l.map bl):=by
 unfold startB startQ;rw[bl_len,List.length_map]
theorem take_ap (a b:Bs) (n:Nat) (h:a.length≤n):(a++b).take n=a++b.take (n-a.length):=by rw[List.take_append,List.take_of_length_le h]
theorem tk_q: ∀(l:List ByteArray) (n:Nat) (r:ByteArray),tkS n r l=(bl r++(l.map bl).flatten).take n
 |[],n,r=>by simp[tkS]
 |x::t,n,r=>by
  rw[tkS]
  split
  ·rename_i h
   rw[List.take_append_of_le_length (by rw[bl_len];exact h)]
  ·rename_i h
   rw[tk_q t (n-r.size) x,List.map_cons,List.flatten_cons,take_ap (bl r) _ n (by rw[bl_len];omega),bl_len]
theorem body_q (r:ByteArray) (l:List ByteArray):bodyL r l=bodyQ (bl r) (l.map bl):=by
 unfold bodyL bodyQ;rw[←start_q,tk_q,bl_len]
theorem ext_from (r:ByteArray) (d:Nat):bl (r.extract d r.size)=(bl r).drop d:=by
 rw[ext_bl,List.take_of_length_le (by rw[List.length_drop,bl_len];omega)]
theorem dr_q: ∀(l:List ByteArray) (d:Nat) (r:ByteArray),(bl (drS d r l).1,(drS d r l).2.map bl)=if d<r.size then((bl r).drop d,l.map bl)else dl (d-r.size) (l.map bl)
 |[],d,r=>by
  rw[drS,ext_from]
  split
  ·rfl
  ·rw[List.drop_eq_nil_of_le (by rw[bl_len];omega)]
   simp[dl]
 |x::t,d,r=>by
  rw[drS];by_cases h:d≤r.size
  ·rw[if_pos h,ext_from]
   by_cases h2:d<r.size
   ·rw[if_pos h2]
   ·rw[if_neg h2,List.drop_eq_nil_of_le (by rw[bl_len];omega),show d-r.size=0 by omega,List.map_cons,dl,if_pos rfl]
  ·rw[if_neg h,if_neg (show ¬d<r.size by omega),dr_q t (d-r.size) x,List.map_cons,dl,if_neg (show ¬d-r.size=0 by omega),bl_len]
theorem step_q (r:ByteArray) (l:List ByteArray):(bl (stepS r l).1,(stepS r l).2.map bl)=stepQ (bl r) (l.map bl):=by
 unfold stepS stepQ;rw[dr_q,←start_q,bl_len]
 cases hs:startB r l with
 |true=>
  have hr:r.size<183:=by
   unfold startB at hs;simp at hs;omega
  rw[if_neg (show ¬184≤r.size by omega),if_neg (show ¬183<r.size by omega)];rfl
 |false=>
  rw[if_neg (show ¬(false=true) by decide)]
  have hr:183≤r.size∨(0<r.size∧l=[]):=by
   unfold startB at hs;simp at hs;rcases Nat.lt_or_ge r.size 183 with h|h
   ·exact Or.inr (hs h)
   ·exact Or.inl h
  by_cases h4:184≤r.size
  ·rw[if_pos h4]
   by_cases h5:184<r.size
   ·rw[if_pos h5]
   ·rw[if_neg h5,show 184-r.size=0 by omega,List.drop_eq_nil_of_le (by rw[bl_len];omega)]
    cases l with
    |nil=>simp[dl]
    |cons x t=>rw[List.map_cons,dl,if_pos rfl]
  ·rw[if_neg h4,if_neg (show ¬183<r.size by omega),List.drop_eq_nil_of_le (by rw[bl_len];omega)]
   rcases hr with hr|hr
   ·rw[show 183-r.size=0 by omega]
    cases l with
    |nil=>simp[dl]
    |cons x t=>rw[List.map_cons,dl,if_pos rfl]
   ·rw[hr.2]
    simp[dl]
theorem st_q (L:List ByteArray): ∀k,(bl (stI L k).1,(stI L k).2.map bl)=stQ (L.map bl) k
 |0=>rfl
 |k+1=>by
  have h:=st_q L k;rw[stI,stQ,step_q,←h]
end Go.Proofs.YtibjkhepedfpiaaGreatDoor.RdQ
