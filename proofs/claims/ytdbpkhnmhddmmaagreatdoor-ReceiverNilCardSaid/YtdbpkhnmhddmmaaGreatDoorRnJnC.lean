import Derived.Test.YtdbpkhnmhddmmaaGreatDoorRnJnB
namespace Go.Proofs.YtdbpkhnmhddmmaaGreatDoor.JnC
open Go Go.RowKit Q Mem Rg Ap St BiW BiH SeG CrB TbM JnP JnA JnB
structure OnJ (w:World) (g:Nat) (j:Jn) (O:List ByteArray) (E:Int) (H:ByteArray) (F:Bool) (e:Ending) (w':World):Prop where
 e: ∃v,e= .returned (.tuple #[v,.int .i64 E])∧w'.ownsRow w.heap.size 9 1 v O.length (flat enS O)
 j:JnOk w w' g {j with hold:=H,fol:=F}
set_option maxRecDepth 100000
theorem onward_any (w:World) (g:Nat) (j:Jn) (s:ByteArray) (e0:Int) (h:JnIn w g j) (hs:j.hold.size+s.size≤900000):
 Calls Tryz.prog 81 #[.pointer (some ⟨g,0,none⟩),.string s,.int .i64 e0] w (OnJ w g j (onO j.hold j.fol s) (onE j.hold j.fol s e0) (onH j.hold j.fol s) (onF j.hold j.fol s)):=by
 have kt:=take_any w g j s h hs;have hb:Blk w g 86 #[.int .i64 j.pid,.string j.hold,.bool j.fol,.int .i64 j.cnt,.string j.seen,.int .i64 (j.lost:Int)]:=h;have c2:=Blk.cell hb 2 (v:= .bool j.fol) rfl;obtain⟨R,hR⟩: ∃R,R=OnJ w g j (onO j.hold j.fol s) (onE j.hold j.fol s e0) (onH j.hold j.fol s) (onF j.hold j.fol s):=⟨_,rfl⟩;rw[←hR];have HR:=Lib.hid hR;clear hR
 cases hf:j.fol with
 |false=>
  rw[hf]at c2;have HH:=Lib.hid h;clear h hb kt
  go_enter Tryz.func81,Tryz.ntmps81
  go_wp2_with fail
  rw[HR.out];refine⟨⟨.slice none 0 0,by rw[show onE j.hold j.fol s e0=e0 from by rw[hf];rfl];rfl,by rw[show onO j.hold j.fol s=[]from by rw[hf];rfl];exact World.ownsRow_nil _ _ _ _⟩,?_⟩;rw[show onH j.hold j.fol s=j.hold from by rw[hf];rfl,show onF j.hold j.fol s=j.fol from by rw[hf];rfl];exact⟨HH.out,Kept.refl _ _⟩
 |true=>
  rw[hf]at c2;clear h hb
  go_enter Tryz.func81,Tryz.ntmps81
  go_wp2_with fail
  (with_reducible refine(kt).mono ?_);rintro e1 W1 hk
  obtain⟨⟨v,rfl,hown⟩,hj⟩:=hk;have kw:=worse_any (tkE (j.hold++s) true) e0 W1;clear kt c2
  go_wp2_with fail
  (with_reducible refine(kw).mono ?_);rintro e1 W2 ⟨rfl,rfl⟩
  go_wp2_with fail
  rw[HR.out];refine⟨⟨_,by unfold onE;rw[hf];rfl,by unfold onO;rw[hf]at hown ⊢;exact hown⟩,?_⟩;unfold onH onF;rw[hf]at hj ⊢;exact hj
theorem drop_any {w:World} {g:Nat} {j:Jn} (h:JnIn w g j):Calls Tryz.prog 16 #[.pointer (some ⟨g,0,none⟩)] w fun e w'=>e= .returned (.tuple #[])∧JnOk w w' g j.drop:=by
 have kl:=lose_any h;clear h
 go_enter Tryz.func16,Tryz.ntmps16
 go_wp2_with fail
 (with_reducible refine(kl).mono ?_);rintro e1 W1 ⟨rfl,hj⟩
 have hb:Blk W1 g 86 #[.int .i64 j.pid,.string nob,.bool false,.int .i64 j.cnt,.string j.seen,.int .i64 (j.lost:Int)]:=hj.j;have c3:=Blk.cell hb 3 (v:= .int .i64 j.cnt) rfl;have f3:=Blk.frozen hb 3;have b3:=Blk.set_ hb 3 (.int .i64 0);have c4:=Blk.cell b3 4 (v:= .string j.seen) rfl;have f4:=Blk.frozen b3 4;have d4:=Blk.cell hb 4 (v:= .string j.seen) rfl;have g4:=Blk.frozen hb 4
 have HF:=Lib.hid (hj.trans (show JnOk W1 ((W1.setCell ⟨g,3,none⟩ (.int .i64 0)).setCell ⟨g,4,none⟩ (.string nob)) g j.drop from
  ⟨Blk.set_ b3 4 (.string nob),(kept_set (F:=fun i=>i=g) (p:=⟨g,3,none⟩) (u:= .int .i64 0) rfl).trans (kept_set (F:=fun i=>i=g) (p:=⟨g,4,none⟩) (u:= .string nob) rfl) (fun _ _ e=>e)⟩))
 clear kl hb b3 hj
 go_wp2_with fail
 go_end0
 exact⟨rfl,HF.out⟩
end Go.Proofs.YtdbpkhnmhddmmaaGreatDoor.JnC
