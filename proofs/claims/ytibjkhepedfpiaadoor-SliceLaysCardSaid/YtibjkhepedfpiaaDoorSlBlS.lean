import Derived.Test.YtibjkhepedfpiaaDoorSlPkB
import Derived.Shelf.Strings.Builder1
namespace Go.Proofs.YtibjkhepedfpiaaDoor.BlS
open Go.Shelf Go.RowKit
abbrev IsB:=Lib.IsBuilder 61 5
theorem sizeB:(Tryd.prog.info? 61).map (·.size)=some 2:=by kernel_rfl
theorem liesB:liesAt Tryd.prog Tryd.prog.depth 61 (2/Tryd.prog.cellsOf 61) 0 61 1=true:=by kernel_rfl
theorem infoByte:(Tryd.prog.info? 5).map (fun i=>(i.zero,i.size,i.bytes))=some (some (.int .u8 0),1,1):=by kernel_rfl
set_option maxHeartbeats 1000000 in
set_option maxRecDepth 100000 in
theorem cc_used (b:Nat) (w:World) (h0:w.cell? ⟨b,0,none⟩=some (.pointer (some ⟨b,0,none⟩))):
 Calls Tryd.prog 35 #[.pointer (some ⟨b,0,none⟩)] w fun e w'=>e= .returned (.tuple #[])∧w'=w:=by
 obtain⟨j,hj,_⟩:=Option.map_eq_some_iff.1 sizeB
 go_enter Tryd.func35,Tryd.ntmps35
 go_wp2
 rw[Lib.run_neq_ptr_same w _ Tryd.underlying59 hj]
 go_wp2
 go_end0
 exact⟨rfl,rfl⟩
set_option maxHeartbeats 1000000 in
set_option maxRecDepth 100000 in
theorem cc_fresh (b:Nat) (w:World) (h0:w.cell? ⟨b,0,none⟩=some (.pointer none)) (hsh:w.shape? b=some (61,2)) (hfz:w.frozen? ⟨b,0,none⟩=false):
 Calls Tryd.prog 35 #[.pointer (some ⟨b,0,none⟩)] w fun e w'=>e= .returned (.tuple #[])∧w'=w.setCell ⟨b,0,none⟩ (.pointer (some ⟨b,0,none⟩)):=by
 obtain⟨j,hj,hjs⟩:=Option.map_eq_some_iff.1 sizeB
 go_enter Tryd.func35,Tryd.ntmps35
 go_wp2
 rw[Lib.run_to_unsafe w ⟨b,0,none⟩ Tryd.underlying59 Tryd.underlying104 hj (by rw[hjs];decide) hsh (Nat.zero_lt_succ 1)];simp only[Result.andThen];rw[Oper.upon_value]
 go_wp2
 rw[run_callFunc_extern Tryd.func47 (by kernel_rfl) (by kernel_rfl) (by kernel_rfl) (e:=Extern.AbiNoEscape.same) (by kernel_rfl)];rw[Lib.run_noEscape];simp only[Result.andThen];rw[Oper.upon_value]
 go_wp2
 rw[Lib.run_from_unsafe w ⟨b,0,none⟩ Tryd.underlying104 Tryd.underlying59 hj hsh liesB];simp only[Result.andThen];rw[Oper.upon_value]
 go_wp2
 go_end0
 exact⟨rfl,rfl⟩
theorem cc_any (B b:Nat) (bs:List Value) (w:World) (h:IsB B b bs w):
 Calls Tryd.prog 35 #[.pointer (some ⟨b,0,none⟩)] w fun e w'=>e= .returned (.tuple #[])∧(Lib.BuilderAt 61 5 B b (.pointer (some ⟨b,0,none⟩)) bs w'∧Below B w w'):=by
 rcases h with h|h
 ·refine(cc_fresh b w h.cell0 h.shape h.frozen0).mono ?_
  rintro e w' ⟨rfl,rfl⟩;exact⟨rfl,h.used _,(Below.refl B w).setCell (p:=⟨b,0,none⟩) h.1 _⟩
 ·refine(cc_used b w h.cell0).mono ?_
  rintro e w' ⟨rfl,rfl⟩;exact⟨rfl,h,Below.refl B _⟩
set_option maxHeartbeats 2000000 in
set_option maxRecDepth 100000 in
theorem write_any (B b:Nat) (bs:List Value) (s:ByteArray) (w:World) (h:IsB B b bs w) (hlen:bs.length+s.size≤140737488355328) (hBw:B≤w.heap.size):
 Calls Tryd.prog 21 #[.pointer (some ⟨b,0,none⟩),.string s] w fun e w'=>e= .returned (.tuple #[.int .i64 s.size,.nilIface])∧(IsB B b (bs++Lib.strCells s) w'∧Below B w w'):=by
 obtain⟨i0,hi,hz0,hz1,hz2⟩:=info_parts infoByte
 go_enter Tryd.func21,Tryd.ntmps21
 go_wp2_with (go_at_call 35;refine(cc_any B b bs _ h).mono ?_)
 rintro e w1 ⟨rfl,h1,hb1⟩;obtain⟨hB,v,hbk,hown,hne⟩:=h1;have c0:w1.cell? ⟨b,0,none⟩=some (.pointer (some ⟨b,0,none⟩)):=by rw[Lib.cell_of_heap hbk];rfl
 have c1:w1.cell? ⟨b,1,none⟩=some v:=by rw[Lib.cell_of_heap hbk];rfl
 go_wp2_with (at_builtin;refine Lib.wpList_append_own_string _ rfl _ _ 42 9 rfl B 5 i0 Tryd.underlying42 Tryd.underlying9 hi hz0 hz1 hz2 _ _ _ rfl hown s rfl ?c3 ?c4 ?c5 ?_)
 case c3=>unfold maxLen;omega
 case c4=>omega
 case c5=>have:=hb1.size;omega
 intro v' w2 hown' hgrow _
 have hlt:b<w1.heap.size:=by
  rcases Nat.lt_or_ge b w1.heap.size with h'|h'
  ·exact h'
  ·simp[Array.getElem?_eq_none h']at hbk
 have hb2:w2.heap[b]? =some (.cells #[.pointer (some ⟨b,0,none⟩),v] 61 (0,0)):=by
  rw[hgrow.block b hlt (fun e=>hne e.symm)];exact hbk
 have d0:w2.cell? ⟨b,0,none⟩=some (.pointer (some ⟨b,0,none⟩)):=by rw[Lib.cell_of_heap hb2];rfl
 have d1:w2.cell? ⟨b,1,none⟩=some v:=by rw[Lib.cell_of_heap hb2];rfl
 have f1:w2.frozen? ⟨b,1,none⟩=false:=Lib.frozen_of_heap hb2 1
 obtain⟨ao,n',cap,rfl⟩: ∃ao n' cap,v'= .slice ao n' cap:=by
  rcases hown'.2 with⟨hv,_⟩|⟨g,cap,cur,hv,_⟩
  ·exact⟨_,_,_,hv⟩
  ·exact⟨_,_,_,hv⟩
 go_wp2
 go_ret2
 refine⟨rfl,Or.inr ?_,?_⟩
 ·exact Lib.BuilderAt.put (T:=61) (e:=5) hB hb2 (bs':=bs++Lib.strCells s) (by simpa [Lib.strCells_length]using hown') (by decide)
 ·exact(hb1.grown hgrow (by have:=hb1.size;omega) (fun k hk=>(hown.lt k hk).1)).setCell (p:=⟨b,1,none⟩) hB _
def ren:Ren:=⟨fun|169=>25|n=>n,fun|70=>59|9=>9|0=>0|72=>61|37=>42|127=>98|3=>3|5=>5|n=>n,fun|n=>n⟩
theorem lays169:Lays.n169 Tryd.prog ren:={
 mixed:=by kernel_rfl
 f169:=Tryd.func25.trans (congrArg some (by kernel_rfl))
 t0:=Tryd.underlying0
 a0:=Tryd.isAgg0
 z0:=Tryd.sizeOf0
 v0:=Tryd.zeroValue0
 t3:=Tryd.underlying3
 a3:=Tryd.isAgg3
 z3:=Tryd.sizeOf3
 v3:=Tryd.zeroValue3
 t9:=Tryd.underlying9
 a9:=Tryd.isAgg9
 z9:=Tryd.sizeOf9
 v9:=Tryd.zeroValue9
 t37:=Tryd.underlying42
 a37:=Tryd.isAgg42
 z37:=Tryd.sizeOf42
 v37:=Tryd.zeroValue42
 t70:=Tryd.underlying59
 a70:=Tryd.isAgg59
 z70:=Tryd.sizeOf59
 v70:=Tryd.zeroValue59
 t72:=Tryd.underlying61
 a72:=Tryd.isAgg61
 z72:=Tryd.sizeOf61
 v72:=Tryd.zeroValue61
 t127:=Tryd.underlying98
 a127:=Tryd.isAgg98
 z127:=Tryd.sizeOf98
 v127:=Tryd.zeroValue98}
theorem extra:Builder.Extra Tryd.prog ren:={
 sizeBuilder:=by kernel_rfl
 liesBuilder:=by kernel_rfl
 t5:=Tryd.underlying5
 a5:=Tryd.isAgg5
 z5:=Tryd.sizeOf5
 v5:=Tryd.zeroValue5
 infoByte:=by kernel_rfl
 cellsByte:=by kernel_rfl
 sizeByte:=by kernel_rfl
 neB5:=by decide}
theorem str_any (B b:Nat) (l:List UInt8) (w:World) (h:IsB B b (Lib.byteCells l) w) (hBw:B≤w.heap.size):
 Calls Tryd.prog 25 #[.pointer (some ⟨b,0,none⟩)] w fun e w'=>e= .returned (.string ⟨l.toArray⟩)∧Below B w w':=Any.Builder_String_any lays169 extra B b l w h hBw
theorem isb_below {B b:Nat} {bs:List Value} {w w':World} (h:IsB B b bs w) (hb:Below w.heap.size w w'):IsB B b bs w':=by
 have key: ∀p,Lib.BuilderAt 61 5 B b p bs w→Lib.BuilderAt 61 5 B b p bs w':=by
  rintro p ⟨hB,v,hbk,hown,hne⟩;have hlt:b<w.heap.size:=(Array.getElem?_eq_some_iff.1 hbk).1;refine⟨hB,v,(hb.block b hlt).trans hbk,hown.kept (Mem.only_of_below hb none) ?_,hne⟩
  cases h':v.ownBlock with
  |none=>exact Or.inl rfl
  |some r=>exact Or.inr (by simp)
 rcases h with h|h
 ·exact Or.inl (key _ h)
 ·exact Or.inr (key _ h)
theorem str_cells (s:ByteArray):Lib.strCells s=Lib.byteCells (St.bl s):=rfl
theorem cells_app (a b:List UInt8):Lib.byteCells a++Lib.byteCells b=Lib.byteCells (a++b):=by simp[Lib.byteCells]
end Go.Proofs.YtibjkhepedfpiaaDoor.BlS
