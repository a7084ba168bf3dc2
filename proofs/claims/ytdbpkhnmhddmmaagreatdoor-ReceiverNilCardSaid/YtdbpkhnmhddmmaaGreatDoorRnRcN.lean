import Derived.Test.YtdbpkhnmhddmmaaGreatDoorRnRcG
namespace Go.Proofs.YtdbpkhnmhddmmaaGreatDoor.RcN
open Go Go.RowKit Q Mem Rg Ap Tab BuE PkE RcA RcC RcD RcE RcG
set_option maxRecDepth 100000
set_option maxHeartbeats 3200000 in
theorem law_any (s:ByteArray) (w:World) (hT:Tab 4 w) (hF:Tab 2 w) (hZ:Tab 1 w) (hW:Wid 0 w):
 Calls Tryz.prog 5 #[.string s] w fun e w'=>e= .returned (.bool true)∧Below w.heap.size w w':=by
 have HT:=Lib.hid (And.intro hT (And.intro hF (And.intro hZ hW)));have hex:=fun(V:World) (hb:Below w.heap.size w V)=>example_any V (HT.out.1.be hb) (HT.out.2.1.be hb) (HT.out.2.2.1.be hb) (HT.out.2.2.2.be hb);have eqZ: ∀V,(binOp .eql 46 stat0 stat0).run Tryz.prog V= .ok (.bool true) V:=fun _=>by kernel_rfl
 unfold stat0 at eqZ;clear hT hF hZ hW;by_cases hl:300<s.size
 ·have t1:decide ((300:Int)<(s.size:Int))=true:=decide_eq_true (by omega)
  have t1':decide (300<s.size)=true:=decide_eq_true hl;have k:=hex w (Below.refl _ _)
  go_enter Tryz.func5,Tryz.ntmps5
  go_wp2_with fail
  (with_reducible refine(k).mono ?_);rintro e1 W1 ⟨rfl,hb1⟩
  go_wp2_with fail
  go_ret;exact⟨rfl,hb1⟩
 ·have t1:decide ((300:Int)<(s.size:Int))=false:=decide_eq_false (by omega)
  have t1':decide (300<s.size)=false:=decide_eq_false hl;have kn:=slot_nil s w;have hb1:=(Below.refl w.heap.size w).alloc (Nat.le_refl _) (.cells #[.string s,.string s] 9);have hB:=Blk.new w 9 #[.string s,.string s]
  have ka:=all_nil (w.alloc (.cells #[.string s,.string s] 9)) [s,s] (some ⟨w.heap.size,0,none⟩) 2 2 (fun i x hi=>⟨w.heap.size,0,rfl,Blk.lt hB,fun j u hj=>by
   match i,hi with
   |0,hi=>obtain rfl:s=x:=by simpa using hi
          match j,hj with
          |0,hj=>obtain rfl:Value.string s=u:=by simpa [CrB.enS]using hj
                 exact Blk.cell hB 0 rfl
          |j+1,hj=>simp[CrB.enS]at hj
   |1,hi=>obtain rfl:s=x:=by simpa using hi
          match j,hj with
          |0,hj=>obtain rfl:Value.string s=u:=by simpa [CrB.enS]using hj
                 exact Blk.cell hB 1 rfl
          |j+1,hj=>simp[CrB.enS]at hj
   |i+2,hi=>simp at hi⟩) rfl (by decide)
  go_enter Tryz.func5,Tryz.ntmps5
  go_wp2_with fail
  (with_reducible refine(kn).mono ?_);rintro e1 W1 ⟨rfl,rfl⟩
  clear kn
  go_wp2_with fail
  (with_reducible refine(ka).mono ?_);rintro e1 W2 ⟨rfl,hb2⟩
  have hb3:=hb1.trans (hb2.mono hb1.size);clear ka hb2 hb1 hB
  go_wp2_with fail
  (with_reducible refine(flush_nil W2).mono ?_);rintro e1 W3 ⟨rfl,rfl⟩
  go_wp2_with fail
  (with_reducible refine(stat_nil W2).mono ?_);rintro e1 W4 ⟨rfl,hb4⟩
  unfold stat0;have hb5:=hb3.trans (hb4.mono hb3.size);have k:=hex W4 hb5;clear hb3 hb4
  go_wp2_with fail
  (with_reducible refine(k).mono ?_);rintro e1 W5 ⟨rfl,hb6⟩
  have hb7:=hb5.trans (hb6.mono hb5.size);clear k hb5 hb6
  go_wp2_with fail
  go_ret;exact⟨rfl,hb7⟩
end Go.Proofs.YtdbpkhnmhddmmaaGreatDoor.RcN
