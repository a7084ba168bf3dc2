import Derived.Test.YtdbpkhnmhddmmaaGreatDoorRnJnD
import Derived.Test.YtdbpkhnmhddmmaaGreatDoorRnPdW
namespace Go.Proofs.YtdbpkhnmhddmmaaGreatDoor.JnE
open Go Go.RowKit Q Mem Rg Ap St TbM JnP PdP PkE JnA JnD PdW
def byJ (j:Jn) (t:ByteArray):JnP.Fd:=if dpE t≠0 then⟨[],dpE t,j⟩else JnP.feed j (dpP t)
set_option maxRecDepth 100000
set_option maxHeartbeats 1600000 in
theorem bytes_any (w:World) (g:Nat) (j:Jn) (t:ByteArray) (h:JnIn w g j) (hW:Wid 0 w) (ht:t.size≤1099511627776) (hh:j.hold.size≤800000) (hc:0≤j.cnt∧j.cnt≤15) (hl:j.lost≤1000000000):
 Calls Tryz.prog 21 #[.pointer (some ⟨g,0,none⟩),.string t] w (FdIn w g (byJ j t)):=by
 have HE:Hid (byJ j t=if dpE t≠0 then⟨[],dpE t,j⟩else JnP.feed j (dpP t)):=Lib.hid rfl;obtain⟨F,hF⟩: ∃F,byJ j t=F:=⟨_,rfl⟩;rw[hF]at HE ⊢;clear hF;obtain⟨R,hR⟩: ∃R,R=FdIn w g F:=⟨_,rfl⟩;rw[←hR];have HR:=Lib.hid hR;clear hR;have kd:=pdec_any t w ht hW;obtain⟨E,hE⟩: ∃E,dpE t=E:=⟨_,rfl⟩;obtain⟨P,hP⟩: ∃P,dpP t=P:=⟨_,rfl⟩;rw[hE]at kd HE;rw[hP]at kd HE;have HJ:=Lib.hid h;have HH:=Lib.hid (And.intro hh (And.intro hc hl));obtain⟨pid,start,count,bad,body⟩:=P;unfold PdP.Pk.vals at kd;dsimp only at kd;clear hE hP h hh hc hl hW ht;by_cases h0:E=0
 ·subst h0
  have HF:=Lib.hid (HE.out.trans (if_neg (by decide)))
  go_enter Tryz.func21,Tryz.ntmps21
  go_wp2_with fail
  (with_reducible refine(kd).mono ?_);rintro e1 W1 ⟨rfl,hb1⟩
  have hj1:=jo_below (jnok_below HJ.out hb1) ((Below.refl W1.heap.size W1).alloc (Nat.le_refl _) (.cells #[.int .i64 pid,.bool start,.int .i64 count,.bool bad,.string body] 80));have hB:=Blk.new W1 80 #[.int .i64 pid,.bool start,.int .i64 count,.bool bad,.string body];have c0:=Blk.cell (hB) 0 (v:= .int .i64 pid) rfl;have c1:=Blk.cell (hB) 1 (v:= .bool start) rfl;have c2:=Blk.cell (hB) 2 (v:= .int .i64 count) rfl;have c3:=Blk.cell (hB) 3 (v:= .bool bad) rfl;have c4:=Blk.cell (hB) 4 (v:= .string body) rfl;have kf:=feed_any (W1.alloc (.cells #[.int .i64 pid,.bool start,.int .i64 count,.bool bad,.string body] 80)) g j ⟨pid,start,count,bad,body⟩ hj1.j HH.out.1 HH.out.2.1 HH.out.2.2;rw[←HF.out]at kf;unfold pkV at kf;dsimp only at kf;have HK:=Lib.hid hj1;clear kd hb1 hj1 hB
  go_wp2_with fail
  (with_reducible refine(kf).mono ?_);rintro e2 W2 hk
  obtain⟨⟨v,rfl,hown⟩,hj⟩:=hk;clear kf
  go_wp2_with fail
  rw[HR.out];exact⟨⟨v,rfl,ApG.own_base hown HK.out.k.size⟩,HK.out.trans hj⟩
 ·have t1:(E !=0)=true:=by simpa using h0
  have HF:=Lib.hid (HE.out.trans (if_pos h0));clear h0
  go_enter Tryz.func21,Tryz.ntmps21
  go_wp2_with fail
  (with_reducible refine(kd).mono ?_);rintro e1 W1 ⟨rfl,hb1⟩
  have hj1:=jo_below (jnok_below HJ.out hb1) ((Below.refl W1.heap.size W1).alloc (Nat.le_refl _) (.cells #[.int .i64 pid,.bool start,.int .i64 count,.bool bad,.string body] 80));clear kd hb1
  go_wp2_with fail
  rw[HR.out,HF.out];exact⟨⟨.slice none 0 0,rfl,World.ownsRow_nil _ _ _ _⟩,hj1⟩
end Go.Proofs.YtdbpkhnmhddmmaaGreatDoor.JnE
