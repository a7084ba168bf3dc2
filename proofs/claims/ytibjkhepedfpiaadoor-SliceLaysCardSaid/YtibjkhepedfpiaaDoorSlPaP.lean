import Derived.Test.YtibjkhepedfpiaaDoorSlPkB
namespace Go.Proofs.YtibjkhepedfpiaaDoor.PaP
open Go St
def dr:Nat→Nat→List Nat→Nat×List Nat
 |d,r,[]=>(r-d,[])
 |d,r,x::t=>if d≤r then(r-d,x::t)else dr (d-r) x t
theorem dr_add (e:Nat): ∀(ls:List Nat) (d r:Nat),dr e (dr d r ls).1 (dr d r ls).2=dr (d+e) r ls
 |[],d,r=>by simp[dr];omega
 |x::t,d,r=>by
  rw[dr]
  split
  ·rename_i h
   rw[dr,dr];by_cases h2:e≤r-d
   ·rw[if_pos h2,if_pos (by omega)];congr 1;omega
   ·rw[if_neg h2,if_neg (by omega)];congr 1;omega
  ·rename_i h
   rw[dr_add e t,dr,if_neg (by omega)]
   congr 1
   omega
theorem dr_end: ∀(ls:List Nat) (d r:Nat),(∀x∈ls,0<x)→((dr d r ls).1=0∧(dr d r ls).2=[]↔r+ls.sum≤d)
 |[],d,r,_=>by simp[dr];omega
 |x::t,d,r,h=>by
  rw[dr];have hx:=h x (by simp)
  split
  ·rename_i hd
   simp;omega
  ·rename_i hd
   rw[dr_end t (d-r) x (fun y hy=>h y (by simp[hy]))];simp;omega
theorem dr_sum: ∀(ls:List Nat) (d r:Nat),(dr d r ls).1+(dr d r ls).2.sum=r+ls.sum-d
 |[],d,r=>by simp[dr]
 |x::t,d,r=>by
  rw[dr]
  split
  ·simp;omega
  ·have:=dr_sum t (d-r) x
   simp;omega
def fp (ls:List Nat) (p:Nat):Nat:=p+(if 184≤(dr p 0 ls).1 then 184 else 183)
def pos (ls:List Nat):Nat→Nat
 |0=>0
 |k+1=>fp ls (pos ls k)
theorem fp_ge (ls:List Nat) (p:Nat):p+183≤fp ls p∧fp ls p≤p+184:=by unfold fp;split<;>omega
theorem pos_ge (ls:List Nat): ∀k,183*k≤pos ls k∧pos ls k≤184*k
 |0=>by simp[pos]
 |k+1=>by have:=pos_ge ls k;have:=fp_ge ls (pos ls k);rw[pos];omega
def Steps (ls:List Nat) (K:Nat):Prop:=ls.sum≤pos ls K∧ ∀j,j<K→pos ls j<ls.sum
theorem Steps.unique {ls:List Nat} {K K':Nat} (h:Steps ls K) (h':Steps ls K'):K=K':=by
 rcases Nat.lt_trichotomy K K' with hl|he|hl
 ·have:=h'.2 K hl;have:=h.1;omega
 ·exact he
 ·have:=h.2 K' hl;have:=h'.1;omega
theorem steps_ex (ls:List Nat): ∃K,Steps ls K:=by
 have key: ∀n k,k+n=ls.sum→(∀j,j<k→pos ls j<ls.sum)→ ∃K,Steps ls K:=by
  intro n
  induction n with
  |zero=>
   intro k hk h;exact⟨k,by have:=pos_ge ls k;omega,h⟩
  |succ n ih=>
   intro k hk h;by_cases hp:ls.sum≤pos ls k
   ·exact⟨k,hp,h⟩
   ·refine ih (k+1) (by omega) (fun j hj=>?_)
    rcases Nat.lt_or_ge j k with h1|h1
    ·exact h j h1
    ·obtain rfl:j=k:=by omega
     omega
 exact key ls.sum 0 (by omega) (fun j hj=>by omega)
noncomputable def nP (ls:List Nat):Nat:=Classical.choose (steps_ex ls)
theorem nP_steps (ls:List Nat):Steps ls (nP ls):=Classical.choose_spec (steps_ex ls)
theorem Steps.eq {ls:List Nat} {K:Nat} (h:Steps ls K):nP ls=K:=(nP_steps ls).unique h
theorem nP_le (ls:List Nat):nP ls≤ls.sum/183+1:=by
 rcases Nat.eq_zero_or_pos (nP ls)with h|h
 ·omega
 ·have:=(nP_steps ls).2 (nP ls-1) (by omega)
  have:=pos_ge ls (nP ls-1);omega
end Go.Proofs.YtibjkhepedfpiaaDoor.PaP
