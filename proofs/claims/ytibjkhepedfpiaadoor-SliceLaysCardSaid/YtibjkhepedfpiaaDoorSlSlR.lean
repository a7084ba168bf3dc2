import Derived.Test.YtibjkhepedfpiaaDoorSlSlM
namespace Go.Proofs.YtibjkhepedfpiaaDoor.SlR
open Go Go.RowKit Q Mem St
def rightP (p s:Int):Prop:=0≤p∧p≤8190∧0≤s∧s≤1048576
instance (p s:Int):Decidable (rightP p s):=by unfold rightP;infer_instance
set_option maxRecDepth 100000
theorem right_any (p s:Int) (w:World):Calls Tryd.prog 33 #[.int .i64 p,.int .i64 s] w fun e w'=>e= .returned (.bool (decide (rightP p s)))∧w=w':=by
 have HR:=Lib.hid (show decide (rightP p s)=(decide (0≤p)&&(decide (p<8191)&&(decide (0≤s)&&decide (s≤1048576))))from by
  by_cases h:rightP p s
  ·rw[decide_eq_true h]
   obtain⟨h1,h2,h3,h4⟩:=h;rw[decide_eq_true h1,decide_eq_true (show p<8191 by omega),decide_eq_true h3,decide_eq_true h4];rfl
  ·rw[decide_eq_false h]
   by_cases h1:0≤p
   ·by_cases h2:p<8191
    ·by_cases h3:0≤s
     ·rw[decide_eq_false (show ¬s≤1048576 from fun h4=>h ⟨h1,by omega,h3,h4⟩)];simp
     ·rw[decide_eq_false h3];simp
    ·rw[decide_eq_false h2];simp
   ·rw[decide_eq_false h1];simp)
 obtain⟨R,hR⟩: ∃R,decide (rightP p s)=R:=⟨_,rfl⟩;rw[hR]at HR ⊢;clear hR
 go_enter Tryd.func33,Tryd.ntmps33
 go_wp2_with fail
 all_goals
  go_ret;refine⟨?_,rfl⟩;rw[HR.out]
  simp_all
  try omega
end Go.Proofs.YtibjkhepedfpiaaDoor.SlR
