import Derived.Test.YtibjkhepedfpiaaDoorSlPaR
namespace Go.Proofs.YtibjkhepedfpiaaDoor.BlG
open Go Go.Shelf Go.RowKit Mem BlS PaR
structure BuV (w:World) (b base:Nat) (v:Value) (bs:List Value):Prop where
 blk: ∃p,(p= .pointer none∨p= .pointer (some ⟨b,0,none⟩))∧Blk w b 61 #[p,v]
 own:w.ownsRow base 5 1 v bs.length bs
 lt:b<base
 bw:base≤w.heap.size
structure Gw (b:Nat) (v:Value) (w w':World):Prop where
 os:w'.os=w.os
 tape:w'.tape=w.tape
 output:w'.output=w.output
 size:w.heap.size≤w'.heap.size
 block: ∀k,k<w.heap.size→k≠b→some k≠v.ownBlock→w'.heap[k]? =w.heap[k]?
theorem Gw.below {b B:Nat} {v:Value} {w w':World} (h:Gw b v w w') (hB:B≤b) (hw:B≤w.heap.size) (hv: ∀r,v.ownBlock=some r→B≤r):Below B w w':=
 ⟨h.os,h.tape,h.output,h.size,fun k hk=>h.block k (Nat.lt_of_lt_of_le hk hw) (by omega) (fun e=>by have:=hv k e.symm;omega)⟩
theorem own_base {w:World} {base base' n sz:Nat} {e:TypeId} {v:Value} {xs:List Value} (h:w.ownsRow base e sz v n xs) (hb:base'≤base):w.ownsRow base' e sz v n xs:=by
 obtain⟨h1,h2⟩:=h;refine⟨h1,?_⟩;rcases h2 with h2|⟨g,cap,cur,e1,hg,h3⟩
 ·exact Or.inl h2
 ·exact Or.inr ⟨g,cap,cur,e1,Nat.le_trans hb hg,h3⟩
theorem BuV.isb {w:World} {b base:Nat} {v:Value} {bs:List Value} (h:BuV w b base v bs):IsB b b bs w:=by
 obtain⟨⟨p,hp,hb⟩,hown,hlt,hbw⟩:=h;have key:Lib.BuilderAt 61 5 b b p bs w:=⟨Nat.le_refl _,v,hb,own_base hown (Nat.le_of_lt hlt),fun e=>by have:=(hown.lt b e).1;omega⟩;rcases hp with rfl|rfl
 ·exact Or.inl key
 ·exact Or.inr key
theorem BuV.ne {w:World} {b base g:Nat} {v:Value} {bs:List Value} {t:TypeId} {cs:Array Value} (h:BuV w b base v bs) (hg:Blk w g t cs) (ht:t≠5):some g≠v.ownBlock:=fun e=>by
 rcases h.own.2 with⟨h1,_⟩|⟨r,cap,cur,e1,_,hr,_⟩
 ·rw[h1]at e;simp[Value.ownBlock]at e
 ·rw[e1]at e
  simp[Value.ownBlock]at e;subst e;unfold Blk at hg;rw[hg]at hr;injection hr with hr
  injection hr with h2 h3 h4
  exact ht h3
theorem BuV.fresh {w:World}:BuV (w.alloc (.cells #[.pointer none,.slice none 0 0] 61)) w.heap.size (w.heap.size+1) (.slice none 0 0) []:=
 ⟨⟨_,Or.inl rfl,Blk.new _ _ _⟩,World.ownsRow_nil _ _ _ _,by omega,by simp⟩
theorem BuV.kept {w w':World} {b base:Nat} {v:Value} {bs:List Value} {row:Option Nat} (h:BuV w b base v bs) (hg:w.grownBy w' row) (h1:some b≠row) (h2:v.ownBlock=none∨v.ownBlock≠row):BuV w' b base v bs:=by
 obtain⟨⟨p,hp,hb⟩,hown,hlt,hbw⟩:=h;exact⟨⟨p,hp,Blk.grown hb hg h1⟩,hown.kept hg h2,hlt,Nat.le_trans hbw hg.size⟩
theorem BuV.below {w w':World} {b base:Nat} {v:Value} {bs:List Value} (h:BuV w b base v bs) (hb:Below w.heap.size w w'):BuV w' b base v bs:=
 h.kept (only_of_below hb none) (by simp) (by cases v.ownBlock<;>simp)
theorem BuV.up {w:World} {b base base':Nat} {bs:List Value} (h:BuV w b base (.slice none 0 0) bs) (hb:b<base') (hw:base'≤w.heap.size):BuV w b base' (.slice none 0 0) bs:=by
 obtain⟨hbl,hown,hlt,hbw⟩:=h;refine⟨hbl,?_,hb,hw⟩;rcases hown.2 with⟨_,h2⟩|⟨g,cap,cur,e1,_⟩
 ·exact⟨hown.1,Or.inl ⟨rfl,h2⟩⟩
 ·simp at e1
set_option maxHeartbeats 2000000 in
set_option maxRecDepth 100000 in
theorem write_grow (b base:Nat) (v:Value) (bs:List Value) (s:ByteArray) (w:World) (h:BuV w b base v bs) (hlen:bs.length+s.size≤140737488355328):
 Calls Tryd.prog 21 #[.pointer (some ⟨b,0,none⟩),.string s] w fun e w'=>e= .returned (.tuple #[.int .i64 s.size,.nilIface])∧ ∃v',BuV w' b base v' (bs++Lib.strCells s)∧Gw b v w w':=by
 obtain⟨⟨p,hp,hb⟩,hown,hlt,hbw⟩:=h;have hne:v.ownBlock≠some b:=fun e=>by have:=(hown.lt b e).1;omega
 have kc:Calls Tryd.prog 35 #[.pointer (some ⟨b,0,none⟩)] w fun e w1=>e= .returned (.tuple #[])∧Blk w1 b 61 #[.pointer (some ⟨b,0,none⟩),v]∧w1.ownsRow base 5 1 v bs.length bs∧w.grownBy w1 (some b):=by
  rcases hp with rfl|rfl
  ·refine(cc_fresh b w (Blk.cell hb 0 rfl) (by unfold Blk at hb;simp[World.shape?,hb]) (Blk.frozen hb 0)).mono ?_
   rintro e w' ⟨rfl,rfl⟩;have hg:=only_set (only_refl w (some b)) 0 (.pointer (some ⟨b,0,none⟩));exact⟨rfl,Blk.set_ hb 0 _,hown.kept hg (Or.inr hne),hg⟩
  ·refine(cc_used b w (Blk.cell hb 0 rfl)).mono ?_
   rintro e w' ⟨rfl,rfl⟩;exact⟨rfl,hb,hown,only_refl _ _⟩
 obtain⟨i0,hi,hz0,hz1,hz2⟩:=info_parts infoByte;clear hb hown
 go_enter Tryd.func21,Tryd.ntmps21
 go_wp2_with (go_at_call 35;refine kc.mono ?_)
 rintro e w1 ⟨rfl,hb1,hown1,hg1⟩;have c0:=Blk.cell hb1 0 (v:= .pointer (some ⟨b,0,none⟩)) rfl;have c1:=Blk.cell hb1 1 (v:=v) rfl
 go_wp2_with (at_builtin;refine Lib.wpList_append_own_string _ rfl _ _ 42 9 rfl base 5 i0 Tryd.underlying42 Tryd.underlying9 hi hz0 hz1 hz2 _ _ _ rfl hown1 s rfl ?c3 ?c4 ?c5 ?_)
 case c3=>unfold maxLen;omega
 case c4=>omega
 case c5=>have:=hg1.size;omega
 intro v' w2 hown' hgrow _;have hb2:Blk w2 b 61 #[.pointer (some ⟨b,0,none⟩),v]:=Blk.grown hb1 hgrow (fun e=>hne e.symm);have d0:=Blk.cell hb2 0 (v:= .pointer (some ⟨b,0,none⟩)) rfl;have d1:=Blk.cell hb2 1 (v:=v) rfl;have f1:=Blk.frozen hb2 1
 obtain⟨ao,n',cap,rfl⟩: ∃ao n' cap,v'= .slice ao n' cap:=by
  rcases hown'.2 with⟨hv,_⟩|⟨g,cap,cur,hv,_⟩
  ·exact⟨_,_,_,hv⟩
  ·exact⟨_,_,_,hv⟩
 have hsz:base≤w2.heap.size:=Nat.le_trans hbw (Nat.le_trans hg1.size hgrow.size)
 have hfin:BuV (w2.setCell ⟨b,1,none⟩ (.slice ao n' cap)) b base (.slice ao n' cap) (bs++Lib.strCells s)∧Gw b v w (w2.setCell ⟨b,1,none⟩ (.slice ao n' cap)):=by
  have hg2:=only_set (only_refl w2 (some b)) 1 (.slice ao n' cap);refine⟨⟨⟨_,Or.inr rfl,Blk.set_ hb2 1 _⟩,?_,hlt,by simpa using hsz⟩,⟨?_,?_,?_,?_,?_⟩⟩
  ·have:=hown'.kept hg2 (by
    cases ho:(Value.slice ao n' cap).ownBlock with
    |none=>exact Or.inl rfl
    |some r=>exact Or.inr (fun e=>by injection e with e;have:=(hown'.lt r ho).1;omega))
   simpa [Lib.strCells_length]using this
  ·exact(hg2.os.trans hgrow.os).trans hg1.os
  ·exact(hg2.tape.trans hgrow.tape).trans hg1.tape
  ·exact(hg2.output.trans hgrow.output).trans hg1.output
  ·exact Nat.le_trans hg1.size (Nat.le_trans hgrow.size hg2.size)
  ·intro k hk h1 h2
   have e1:=hg1.block k hk (fun e=>h1 (by injection e));have e2:=hgrow.block k (Nat.lt_of_lt_of_le hk hg1.size) h2;have e3:=hg2.block k (Nat.lt_of_lt_of_le hk (Nat.le_trans hg1.size hgrow.size)) (fun e=>h1 (by injection e));exact e3.trans (e2.trans e1)
 clear hown' hgrow hb1 hb2 hown1 hg1 kc
 go_wp2
 go_ret2
 exact⟨rfl,_,hfin⟩
theorem len_bv (b base:Nat) (v:Value) (bs:List Value) (w:World) (h:BuV w b base v bs):
 Calls Tryd.prog 20 #[.pointer (some ⟨b,0,none⟩)] w fun e w'=>e= .returned (.int .i64 bs.length)∧w'=w:=len_any b b bs w h.isb
theorem str_bv (b base:Nat) (v:Value) (l:List UInt8) (w:World) (h:BuV w b base v (Lib.byteCells l)):
 Calls Tryd.prog 25 #[.pointer (some ⟨b,0,none⟩)] w fun e w'=>e= .returned (.string ⟨l.toArray⟩)∧Below b w w':=str_any b b l w h.isb (by have:=h.lt;have:=h.bw;omega)
def bLen (w:World) (b:Nat):Nat:=match w.cell? ⟨b,1,none⟩with|some (.slice _ n _)=>n|_=>0
theorem BuV.bLen {w:World} {b base:Nat} {v:Value} {bs:List Value} (h:BuV w b base v bs):bLen w b=bs.length:=by
 obtain⟨⟨p,hp,hb⟩,hown,_,_⟩:=h;unfold BlG.bLen;rw[Blk.cell hb 1 (v:=v) rfl];rcases hown.2 with⟨h1,h2⟩|⟨g,cap,cur,e1,_⟩
 ·rw[h1];simp[h2]
 ·rw[e1]
end Go.Proofs.YtibjkhepedfpiaaDoor.BlG
