import Derived.Test.YtibjkhepedfpiaaDoorSlSlP
import Derived.Test.YtibjkhepedfpiaaDoorSlApC
namespace Go.Proofs.YtibjkhepedfpiaaDoor.SlU
open Go Go.RowKit Q Mem Rg Ap ApG ApC St CrB BiW BiG PaP
def lenS:Value→Int
 | .slice _ n _=>n
 |_=>0
def fillL (s:ByteArray):List UInt8:=bl s++List.replicate (184-s.size) 255
set_option maxRecDepth 100000
set_option maxHeartbeats 1600000 in
theorem filled_any (s:ByteArray) (w:World) (hs:s.size≤1099511627776):Calls Tryd.prog 41 #[.string s] w fun e w'=>e= .returned (.string (str (fillL s)))∧Below w.heap.size w w':=by
 obtain⟨c,hc⟩: ∃c,grownCap w s.size 0 5=c:=⟨_,rfl⟩;have hcg:s.size≤c:=by rw[←hc];exact grownCap_ge w s.size 0 5
 have hcv:(convert 9 42 (.string s)).run Tryd.prog w= .ok (.slice (some ⟨w.heap.size,0,none⟩) s.size c) (w.drew.alloc (.cells (bytesRow s c) 5 ((bytesRow s c).size,(bytesRow s c).size+1))):=by
  rw[←hc];exact run_bytes_of_string w _ _ _ s Tryd.underlying9 Tryd.underlying42 Tryd.underlying5
 have hC0:=cells_conv s w 5 c hcg;have hb0:Below w.heap.size w (w.drew.alloc (.cells (bytesRow s c) 5 ((bytesRow s c).size,(bytesRow s c).size+1))):=(Below.refl _ _).drew.alloc (Nat.le_refl _) _;obtain⟨V,hV⟩: ∃V,w.drew.alloc (.cells (bytesRow s c) 5 ((bytesRow s c).size,(bytesRow s c).size+1))=V:=⟨_,rfl⟩;rw[hV]at hcv hC0 hb0;clear hV hc;have hC1:=Lib.hid hC0
 go_enter Tryd.func41,Tryd.ntmps41
 go_wp2_with fail
 go_loopw [3] (fun v wr=> ∃q:Nat,Hid (q=0∨s.size+q≤184)∧Cells wr w.heap.size v (s.size+q) (u8s (bl s++List.replicate q 255))∧Below w.heap.size w wr) (fun v _=>184-(lenS v).toNat)
 case atStart=>exact⟨0,Lib.hid (Or.inl rfl),by simpa using hC0,hb0⟩
 case round=>
  obtain⟨q,hq,hC,hb⟩:=hrel;obtain⟨g,cap,rfl,_,_,hnc,_⟩:=id hC;by_cases hl:s.size+q<184
  ·have t0:decide ((s.size:Int)+(q:Int)<184)=true:=decide_eq_true (by omega)
   have t1:decide (s.size+q<184)=true:=decide_eq_true hl;have hbk:=Blk.new wr 5 #[.int .u8 255];have hC2:=hC.below ((Below.refl wr.heap.size wr).alloc (Nat.le_refl _) (.cells #[.int .u8 255] 5));have hsz2:w.heap.size≤(wr.alloc (.cells #[.int .u8 255] 5)).heap.size:=by have:=hb.size;simp;omega
   have hb2:=hb.alloc hb.size (.cells #[.int .u8 255] 5);clear hC
   go_wp2_with (at_builtin;refine wpList_appC rfl _ _ rfl elemB rfl hC2 rfl (Blk.cell hbk 0 rfl) rfl (by omega) (by unfold maxLen;omega) hsz2 ?_)
   intro v9 w8 hC9 hb8;have hb3:=hb2.trans hb8
   have hC8:Cells w8 w.heap.size v9 (s.size+(q+1)) (u8s (bl s++List.replicate (q+1) 255)):=by
    rw[List.replicate_succ',←List.append_assoc];rw[show u8s (bl s++List.replicate q 255++[255])=u8s (bl s++List.replicate q 255)++[.int .u8 255] by simp[u8s,u8v]];exact hC9
   have hC7:=Lib.hid hC8;obtain⟨g',cap',rfl,_⟩:=hC8;clear hC2 hbk hb2 hC9 hb8
   go_wp2_with fail
   go_roundw
   case rel=>exact⟨q+1,Lib.hid (Or.inr (by omega)),hC7.out,hb3⟩
   case measure=>simp[lenS];omega
  ·have t0:decide ((s.size:Int)+(q:Int)<184)=false:=decide_eq_false (by omega)
   have t1:decide (s.size+q<184)=false:=decide_eq_false hl;have hcs:=cells_str hC
   have HF:=Lib.hid (show bl s++List.replicate q 255=fillL s from by
    unfold fillL;rw[show q=184-s.size by rcases hq.out with h|h<;>omega])
   rw[HF.out]at hcs;clear hC
   go_wp2_with fail
   go_ret;exact⟨rfl,hb⟩
end Go.Proofs.YtibjkhepedfpiaaDoor.SlU
