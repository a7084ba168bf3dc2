import Derived.Test.YtdbpkhnmhddmmaaGreatDoorRnJnP
import Derived.Test.YtdbpkhnmhddmmaaGreatDoorRnPkV
namespace Go.Proofs.YtdbpkhnmhddmmaaGreatDoor.JnA
open Go Go.RowKit Q Mem Rg Ap St CrB TbM JnP
set_option maxRecDepth 100000
def jc (j:Jn):Array Value:= #[.int .i64 j.pid,.string j.hold,.bool j.fol,.int .i64 j.cnt,.string j.seen,.int .i64 (j.lost:Int)]
def JnIn (w:World) (g:Nat) (j:Jn):Prop:=Blk w g 86 (jc j)
theorem new_yes (pid:Int) (w:World) (h:0≤pid∧pid<8191):Calls Tryz.prog 10 #[.int .i64 pid] w fun e w'=>e= .returned (.tuple #[.pointer (some ⟨w.heap.size,0,none⟩),.int .i64 0])∧JnIn w' w.heap.size ⟨pid,nob,false,0,nob,0⟩∧Below w.heap.size w w':=by
 have t1:decide (pid<0)=false:=decide_eq_false (by omega);have t2:decide ((8191:Int)≤pid)=false:=decide_eq_false (by omega);clear h
 go_enter Tryz.func10,Tryz.ntmps10
 go_wp2_with fail
 go_ret2
 exact⟨rfl,Blk.new _ _ _,(Below.refl _ _).alloc (Nat.le_refl _) _⟩
structure JnOk (w w':World) (g:Nat) (j:Jn):Prop where
 j:JnIn w' g j
 k:Kept (fun i=>i=g) w w'
theorem JnOk.trans {a b c:World} {g:Nat} {j j':Jn} (h:JnOk a b g j) (k:JnOk b c g j'):JnOk a c g j':=⟨k.j,h.k.trans k.k (fun _ _ e=>e)⟩
theorem JnIn.below {w w':World} {g:Nat} {j:Jn} (h:JnIn w g j) (k:Below w.heap.size w w'):JnIn w' g j:=Blk.below h k (Blk.lt h)
theorem lose_any {w:World} {g:Nat} {j:Jn} (h:JnIn w g j):Calls Tryz.prog 40 #[.pointer (some ⟨g,0,none⟩)] w fun e w'=>e= .returned (.tuple #[])∧JnOk w w' g {j with hold:=nob,fol:=false}:=by
 have hb:Blk w g 86 #[.int .i64 j.pid,.string j.hold,.bool j.fol,.int .i64 j.cnt,.string j.seen,.int .i64 (j.lost:Int)]:=h;have c1:=Blk.cell hb 1 (v:= .string j.hold) rfl;have f1:=Blk.frozen hb 1;have b1:=Blk.set_ hb 1 (.string nob);have c2:=Blk.cell b1 2 (v:= .bool j.fol) rfl;have f2:=Blk.frozen b1 2
 have HF:=Lib.hid (show JnOk w ((w.setCell ⟨g,1,none⟩ (.string nob)).setCell ⟨g,2,none⟩ (.bool false)) g {j with hold:=nob,fol:=false}from
  ⟨Blk.set_ b1 2 (.bool false),(kept_set (F:=fun i=>i=g) (p:=⟨g,1,none⟩) (u:= .string nob) rfl).trans (kept_set (F:=fun i=>i=g) (p:=⟨g,2,none⟩) (u:= .bool false) rfl) (fun _ _ e=>e)⟩)
 clear hb b1 h
 go_enter Tryz.func40,Tryz.ntmps40
 go_wp2_with fail
 go_end0
 exact⟨rfl,HF.out⟩
theorem lost_any {w:World} {g:Nat} {j:Jn} (h:JnIn w g j):Calls Tryz.prog 52 #[.pointer (some ⟨g,0,none⟩)] w fun e w'=>e= .returned (.int .i64 (j.lost:Int))∧w=w':=by
 have c1:=Blk.cell (show Blk w g 86 #[.int .i64 j.pid,.string j.hold,.bool j.fol,.int .i64 j.cnt,.string j.seen,.int .i64 (j.lost:Int)]from h) 5 (v:= .int .i64 (j.lost:Int)) rfl;clear h
 go_enter Tryz.func52,Tryz.ntmps52
 go_wp2_with fail
 go_ret;exact⟨rfl,rfl⟩
theorem worse_any (a b:Int) (w:World):Calls Tryz.prog 83 #[.int .i64 a,.int .i64 b] w fun e w'=>e= .returned (.int .i64 (JnP.worse a b))∧w=w':=by
 by_cases h1:a=12
 ·have t1:(a==12)=true:=beq_iff_eq.2 h1
  have HF:=Lib.hid (show JnP.worse a b=a from if_pos (Or.inl h1));clear h1
  go_enter Tryz.func83,Tryz.ntmps83
  go_wp2_with fail
  go_ret;exact⟨by rw[HF.out];rfl,rfl⟩
 ·have t1:(a==12)=false:=beq_eq_false_iff_ne.2 h1
  by_cases h2:b=0
  ·have t2:(b==0)=true:=beq_iff_eq.2 h2
   have HF:=Lib.hid (show JnP.worse a b=a from if_pos (Or.inr h2));clear h1 h2
   go_enter Tryz.func83,Tryz.ntmps83
   go_wp2_with fail
   go_ret;exact⟨by rw[HF.out];rfl,rfl⟩
  ·have t2:(b==0)=false:=beq_eq_false_iff_ne.2 h2
   have HF:=Lib.hid (show JnP.worse a b=b from if_neg (by rintro(h|h);exact h1 h;exact h2 h));clear h1 h2
   go_enter Tryz.func83,Tryz.ntmps83
   go_wp2_with fail
   go_ret;exact⟨by rw[HF.out];rfl,rfl⟩
end Go.Proofs.YtdbpkhnmhddmmaaGreatDoor.JnA
