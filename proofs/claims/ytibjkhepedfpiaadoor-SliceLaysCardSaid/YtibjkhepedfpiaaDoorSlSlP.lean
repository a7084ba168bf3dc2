import Derived.Test.YtibjkhepedfpiaaDoorSlSlC
import Derived.Test.YtibjkhepedfpiaaDoorSlMpP
namespace Go.Proofs.YtibjkhepedfpiaaDoor.SlP
open Go St CrC PaA PaK PaP SlM SlA SlB SlC
theorem take_snoc {S:List ByteArray} {q:Nat} {s:ByteArray} (h:S[q]? =some s):S.take (q+1)=S.take q++[s]:=by rw[List.take_add_one,h];rfl
theorem one_E (s:ByteArray):manyE [s]=paE s:=by
 unfold manyE;rw[if_neg (by simp),firstE]
 split
 ·rename_i h;rw[h];rfl
 ·rfl
theorem one_N (s:ByteArray):manyN [s]=if paE s=0 then nP [s.size]else 0:=by
 unfold manyN;rw[one_E];rfl
theorem sum_B {B:Nat}: ∀{S:List ByteArray},(∀s∈S,s.size≤B)→(S.map ByteArray.size).sum≤B*S.length
 |[],_=>by simp
 |x::t,h=>by
  have h1:=h x (by simp);have h2:=sum_B (S:=t) (fun s hs=>h s (by simp[hs]));rw[List.map_cons,List.sum_cons,List.length_cons,Nat.mul_add,Nat.mul_one];omega
theorem manyN_le {S:List ByteArray} {B:Nat} (h: ∀s∈S,s.size≤B):manyN S≤(B*S.length)/183+1:=by
 unfold manyN
 split
 ·have h1:=nP_le (S.map ByteArray.size)
  have:=Nat.div_le_div_right (c:=183) (sum_B h);omega
 ·omega
end Go.Proofs.YtibjkhepedfpiaaDoor.SlP
