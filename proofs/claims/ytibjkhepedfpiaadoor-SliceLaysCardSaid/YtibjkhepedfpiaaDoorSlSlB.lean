import Derived.Test.YtibjkhepedfpiaaDoorSlSlA
namespace Go.Proofs.YtibjkhepedfpiaaDoor.SlB
open Go Go.RowKit Q Mem Rg Ap St CrB SlA
def enPc (p:Pc):List Value:=[.int .i64 p.n,.int .u8 (p.table:Int),.int .u8 (p.b:Int),.bool p.gram,.string p.text]
theorem elemS:Elem Tryd.prog 33 9 1 16:=elem_of Tryd.underlying33 (z:= .string ByteArray.empty) (by kernel_rfl) rfl (by decide)
def PcOk (p:Pc):Prop:=p.table<256∧p.b<256
theorem flat_s (L:List Pc) (q:Nat) (p:Pc) (h:L[q]? =some p):flat enS ((L.map Pc.bytes).take (q+1))=flat enS ((L.map Pc.bytes).take q)++[.string p.bytes]:=by
 rw[flat_snoc (x:=p.bytes) (by rw[List.getElem?_map,h];rfl)];rfl
set_option maxRecDepth 100000
set_option maxHeartbeats 1600000 in
theorem texts_any (a:Option Addr) (n c:Nat) (L:List Pc) (w:World) (hn:L.length=n) (hl:n≤100000) (hL:Seq enPc 5 w a L) (hok: ∀p∈L,PcOk p):
 Calls Tryd.prog 17 #[.slice a n c] w fun e w'=> ∃v,e= .returned v∧w'.ownsRow w.heap.size 9 1 v n (flat enS (L.map Pc.bytes))∧Below w.heap.size w w':=by
 have HL:=Lib.hid hL;have HN:=Lib.hid hn;have HO:=Lib.hid hok;clear hL hn hok
 go_enter Tryd.func17,Tryd.ntmps17
 go_wp2_with fail
 go_loopw [3,4] (fun out i wr=> ∃q:Nat,q≤n∧i= .int .i64 q∧wr.ownsRow w.heap.size 9 1 out q (flat enS ((L.map Pc.bytes).take q))∧Below w.heap.size w wr) (fun _ i _=>n-(intOf i).toNat)
 case atStart=>exact⟨0,by omega,rfl,World.ownsRow_nil _ _ _ _,Below.refl _ _⟩
 case round=>
  obtain⟨q,hq,rfl,hown,hb⟩:=hrel;by_cases hqn:q<n
  ·have t0:decide (q<n)=true:=decide_eq_true hqn
   obtain⟨p,hp⟩: ∃p,L[q]? =some p:=⟨_,List.getElem?_eq_getElem (by rw[HN.out];exact hqn)⟩;obtain⟨b0,o0,rfl,hlt,hc⟩:=(HL.out.below (Nat.le_refl _) hb) q p hp;have k0:(0:Int)≤(q:Int):=Int.natCast_nonneg _;have k1:(q:Int)<(n:Int):=by omega
   have hfl:=flat_s L q p hp;obtain⟨h1,h2⟩:=HO.out p (List.mem_of_getElem? hp);have km:=fun V=>made_any p V h1 h2;obtain⟨X,hX⟩: ∃X,p.bytes=X:=⟨_,rfl⟩;rw[hX]at km hfl;unfold Pc.vals at km;have c0:=hc 0 _ rfl;have c1:=hc 1 _ rfl;have c2:=hc 2 _ rfl;have c3:=hc 3 _ rfl;have c4:=hc 4 _ rfl;rw[off_eq]at c0 c1 c2 c3 c4;rw[Nat.add_zero]at c0;have hbs:=hb.size;clear hc hp hX h1 h2 hlt
   go_wp2_with fail
   (with_reducible refine(km _).mono ?_);rintro e1 W1 ⟨rfl,hb1⟩
   have hb2:=hb.trans (hb1.mono hbs);have hb9:=Blk.new W1 9 #[.string X];have hown1:=own_below hown hb1;have hown2:=own_below hown1 ((Below.refl W1.heap.size W1).alloc (Nat.le_refl _) (.cells #[.string X] 9));have hsz2:w.heap.size≤(W1.alloc (.cells #[.string X] 9)).heap.size:=by have:=hb2.size;simp;omega
   have hb3:=hb2.alloc hb2.size (.cells #[.string X] 9);clear km hown hown1 hb1 hb2 c0 c1 c2 c3 c4
   go_wp2_with (at_builtin;refine wpList_app rfl _ _ rfl elemS rfl hown2 rfl rfl (blk_news hb9) (by simp[Value.oneCell']) (by omega) (by unfold maxLen;omega) hsz2 ?_)
   intro v9 w8 hown9 hb8;have hb4:=hb3.trans hb8;clear hown2 hb9 hb3 hb8
   go_wp2_with fail
   go_roundw
   case rel=>exact⟨q+1,by omega,by go_num,by rw[hfl];exact hown9,hb4⟩
   case measure=>simp[intOf];omega
  ·obtain rfl:q=n:=by omega
   have t0:decide (q<q)=false:=by simp
   have HF:=Lib.hid (show(L.map Pc.bytes).take q=L.map Pc.bytes from List.take_of_length_le (by rw[List.length_map,HN.out];exact Nat.le_refl _))
   go_wp2_with fail
   go_ret;rw[HF.out]at hown;exact⟨_,rfl,hown,hb⟩
end Go.Proofs.YtibjkhepedfpiaaDoor.SlB
