import Derived.Test.YtibjkhepedfpiaaDoorSlRdP
import Derived.Test.YtibjkhepedfpiaaDoorSlPaK
namespace Go.Proofs.YtibjkhepedfpiaaDoor.RdQ
open Go St PaP PaT PaN PaK RdP
theorem start_q (r:ByteArray) (l:List ByteArray):startB r l=startQ (bl r) (l.map bl):=by
 unfold startB startQ;rw[bl_len,List.length_map]
theorem take_ap (a b:Bs) (n:Nat) (h:a.length≤n):(a++b).take n=a++b.take (n-a.length):=by rw[List.take_append,List.take_of_length_le h]
theorem tk_q: ∀(l:List ByteArray) (n:Nat) (r:ByteArray),tkS n r l=(bl r++(l.map bl).flatten).take n
 |[],n,r=>by simp[tkS]
 |x::t,n,r=>by
  rw[tkS]
  split
  ·rename_i h
   rw[List.take_append_of_le_length (by rw[bl_len];exact h)]
  ·rename_i h
   rw[tk_q t (n-r.size) x,List.map_cons,List.flatten_cons,take_ap (bl r) _ n (by rw[bl_len];omega),bl_len]
theorem body_q (r:ByteArray) (l:List ByteArray):bodyL r l=bodyQ (bl r) (l.map bl):=by
 unfold bodyL bodyQ;rw[←start_q,tk_q,bl_len]
theorem ext_from (r:ByteArray) (d:Nat):bl (r.extract d r.size)=(bl r).drop d:=by
 rw[ext_bl,List.take_of_length_le (by rw[List.length_drop,bl_len];omega)]
theorem dr_q: ∀(l:List ByteArray) (d:Nat) (r:ByteArray),(bl (drS d r l).1,(drS d r l).2.map bl)=if d<r.size then((bl r).drop d,l.map bl)else dl (d-r.size) (l.map bl)
 |[],d,r=>by
  rw[drS,ext_from]
  split
  ·rfl
  ·rw[List.drop_eq_nil_of_le (by rw[bl_len];omega)]
   simp[dl]
 |x::t,d,r=>by
  rw[drS];by_cases h:d≤r.size
  ·rw[if_pos h,ext_from]
   by_cases h2:d<r.size
   ·rw[if_pos h2]
   ·rw[if_neg h2,List.drop_eq_nil_of_le (by rw[bl_len];omega),show d-r.size=0 by omega,List.map_cons,dl,if_pos rfl]
  ·rw[if_neg h,if_neg (show ¬d<r.size by omega),dr_q t (d-r.size) x,List.map_cons,dl,if_neg (show ¬d-r.size=0 by omega),bl_len]
theorem step_q (r:ByteArray) (l:List ByteArray):(bl (stepS r l).1,(stepS r l).2.map bl)=stepQ (bl r) (l.map bl):=by
 unfold stepS stepQ;rw[dr_q,←start_q,bl_len]
 cases hs:startB r l with
 |true=>
  have hr:r.size<183:=by
   unfold startB at hs;simp at hs;omega
  rw[if_neg (show ¬184≤r.size by omega),if_neg (show ¬183<r.size by omega)];rfl
 |false=>
  rw[if_neg (show ¬(false=true) by decide)]
  have hr:183≤r.size∨(0<r.size∧l=[]):=by
   unfold startB at hs;simp at hs;rcases Nat.lt_or_ge r.size 183 with h|h
   ·exact Or.inr (hs h)
   ·exact Or.inl h
  by_cases h4:184≤r.size
  ·rw[if_pos h4]
   by_cases h5:184<r.size
   ·rw[if_pos h5]
   ·rw[if_neg h5,show 184-r.size=0 by omega,List.drop_eq_nil_of_le (by rw[bl_len];omega)]
    cases l with
    |nil=>simp[dl]
    |cons x t=>rw[List.map_cons,dl,if_pos rfl]
  ·rw[if_neg h4,if_neg (show ¬183<r.size by omega),List.drop_eq_nil_of_le (by rw[bl_len];omega)]
   rcases hr with hr|hr
   ·rw[show 183-r.size=0 by omega]
    cases l with
    |nil=>simp[dl]
    |cons x t=>rw[List.map_cons,dl,if_pos rfl]
   ·rw[hr.2]
    simp[dl]
theorem st_q (L:List ByteArray): ∀k,(bl (stI L k).1,(stI L k).2.map bl)=stQ (L.map bl) k
 |0=>rfl
 |k+1=>by
  have h:=st_q L k;rw[stI,stQ,step_q,←h]
end Go.Proofs.YtibjkhepedfpiaaDoor.RdQ
