import Derived.Test.YtibjkhepedfpiaaGreatDoorSgPkH
namespace Go.Proofs.YtibjkhepedfpiaaGreatDoor.BlG
open Go Go.Shelf Go.RowKit Mem BlS PaR
structure BuV (w:World) (b base:Nat) (v:Value) (bs:List Value):Prop where
 blk: ∃p,(p= .pointer none∨p= .pointer (some ⟨b,0,none⟩))∧Blk w b 92 #[p,v]
 own:w.ownsRow base 5 1 v bs.length bs
 lt:b<base
 bw:base≤w.heap.size
structure Gw (b:Nat) (v:Value) (w w':World):Prop where
 os:w'.os=w.os
 tape:w'.tape=w.tape
 output:w'.output=w.output
 size:w.heap.size≤w'.heap.size
 block: ∀k,k<w.heap.size→k≠b→some k≠v.ownBlock→w'.heap[k]? =w.heap[k]?
theorem Gw.below {b B:Nat} {v:Value} {w w':World} (h:Gw b v w w') (hB:B≤b) (hw:B≤w.heap.size) (hv: ∀r,v.ownBlock=some r→B≤r):Below B w w':=
 ⟨h.os,h.tape,h.output,h.size,fun k hk=>h.block k (Nat.lt_of_lt_of_le hk hw) (by omega) (fun e=>by have:=hv k e.symm;omega)⟩
theorem own_base {w:World} {base base' n sz:Nat} {e:TypeId} {v:Value} {xs:List Value} (h:w.ownsRow base e sz v n xs) (hb:base'≤base):w.ownsRow base' e sz v n xs:=by
 obtain⟨h1,h2⟩:=h;refine⟨h1,?_⟩;rcases h2 with h2|⟨g,cap,cur,e1,hg,h3⟩
 ·exact Or.inl h2
 ·exact Or.inr ⟨g,cap,cur,e1,Nat.le_trans hb hg,h3⟩
theorem BuV.ne {w:World} {b base g:Nat} {v:Value} {bs:List Value} {t:TypeId} {cs:Array Value} (h:BuV w b base v bs) (hg:Blk w g t cs) (ht:t≠5):some g≠v.ownBlock:=fun e=>by
 rcases h.own.2 with⟨h1,_⟩|⟨r,cap,cur,e1,_,hr,_⟩
 ·rw[h1]at e;simp[Value.ownBlock]at e
 ·rw[e1]at e
  simp[Value.ownBlock]at e;subst e;unfold Blk at hg;rw[hg]at hr;injection hr with hr
  injection hr with h2 h3 h4
  exact ht h3
theorem BuV.kept {w w':World} {b base:Nat} {v:Value} {bs:List Value} {row:Option Nat} (h:BuV w b base v bs) (hg:w.grownBy w' row) (h1:some b≠row) (h2:v.ownBlock=none∨v.ownBlock≠row):BuV w' b base v bs:=by
 obtain⟨⟨p,hp,hb⟩,hown,hlt,hbw⟩:=h;exact⟨⟨p,hp,Blk.grown hb hg h1⟩,hown.kept hg h2,hlt,Nat.le_trans hbw hg.size⟩
theorem BuV.below {w w':World} {b base:Nat} {v:Value} {bs:List Value} (h:BuV w b base v bs) (hb:Below w.heap.size w w'):BuV w' b base v bs:=
 h.kept (only_of_below hb none) (by simp) (by cases v.ownBlock<;>simp)
theorem BuV.up {w:World} {b base base':Nat} {bs:List Value} (h:BuV w b base (.slice none 0 0) bs) (hb:b<base') (hw:base'≤w.heap.size):BuV w b base' (.slice none 0 0) bs:=by
 obtain⟨hbl,hown,hlt,hbw⟩:=h;refine⟨hbl,?_,hb,hw⟩;rcases hown.2 with⟨_,h2⟩|⟨g,cap,cur,e1,_⟩
 ·exact⟨hown.1,Or.inl ⟨rfl,h2⟩⟩
 ·simp at e1
end Go.Proofs.YtibjkhepedfpiaaGreatDoor.BlG
