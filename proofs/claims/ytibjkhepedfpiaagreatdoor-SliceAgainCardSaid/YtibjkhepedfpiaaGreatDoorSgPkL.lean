import Derived.Test.YtibjkhepedfpiaaGreatDoorSgPkY
import Derived.Test.YtibjkhepedfpiaaGreatDoorSgBlG
import Derived.Test.YtibjkhepedfpiaaGreatDoorSgPkI
import Derived.Maps.OwnOps
import Derived.Maps.Views
namespace Go.Proofs.YtibjkhepedfpiaaGreatDoor.PkL
open Go Go.RowKit Go.Maps Q Mem Rg Ap St BlS BlG CrB PaA PaP PaN PaK SlM SlP SlR SlS SlW PkP PkE PkY
structure Lst where
 out:List Pkt
 nx:Int→Nat
noncomputable def nS (S:List ByteArray):Nat:=nP (S.map ByteArray.size)
noncomputable def layStep (s:Lst) (b:Br):Lst:=
 ⟨s.out++List.replicate (b.at_.toNat-s.out.length) nilPk++pks b.pid (s.nx b.pid) b.S (nS b.S),fun x=>if x=b.pid then(s.nx b.pid+nS b.S)%16 else s.nx x⟩
noncomputable def layF (L:List Br):Lst:=L.foldl layStep ⟨[],fun _=>0⟩
theorem body_len (r:ByteArray) (l:List ByteArray):(bodyL r l).length=184∨(bodyL r l).length=183:=by
 cases hb:startB r l
 ·rw[body_no hb]
  simp only[List.length_append,List.length_take,bl_len,List.length_replicate]
  split<;>omega
 ·rw[body_yes hb]
  simp only[List.length_append,List.length_cons,List.length_replicate];rw[RdQ.tk_q,List.length_take];omega
theorem pks_len (pid:Int) (c:Nat) (S:List ByteArray) (K:Nat):(pks pid c S K).length=K:=by simp[pks]
theorem pks_ok {pid:Int} {c:Nat} {S:List ByteArray} (h0:0≤pid) (h1:pid<8191) (_hS:firstE S=0): ∀p∈pks pid c S (nS S),PkOk p:=by
 intro p hp;obtain⟨k,_,rfl⟩:=List.mem_map.1 hp;refine⟨⟨h0,by show pid<8192;omega⟩,⟨?_,?_⟩,?_⟩
 ·show(0:Int)≤(((c+k)%16:Nat):Int);omega
 ·show(((c+k)%16:Nat):Int)<16;omega
 ·show(str _).size=184∨(str _).size=183
  rw[str_size];exact body_len _ _
structure LayOk (s:Lst) (rest:List Br):Prop where
 c:checkE (s.out.length:Int) rest=0
 ok: ∀p∈s.out,PkOk p
 nx: ∀x,s.nx x<16
 len:s.out.length≤1080000
theorem checkE_cons {e:Int} {b:Br} {t:List Br} (h:checkE e (b::t)=0):rightP b.pid b.at_∧manyE b.S=0∧e≤b.at_∧checkE (b.at_+nS b.S) t=0:=by
 rw[checkE]at h;by_cases h1:rightP b.pid b.at_
 ·rw[if_neg (by simpa using h1)]at h
  by_cases h2:manyE b.S=0
  ·rw[if_neg (by simpa using h2)]at h
   by_cases h3:b.at_<e
   ·rw[if_pos h3]at h;cases h
   ·rw[if_neg h3]at h
    refine⟨h1,h2,by omega,?_⟩;rw[show(nS b.S:Int)=(manyN b.S:Int) by unfold manyN nS;rw[if_pos h2]];exact h
  ·rw[if_pos h2]at h;exact absurd h h2
 ·rw[if_pos h1]at h;cases h
theorem many_first {S:List ByteArray} (h:manyE S=0):S.length≠0∧firstE S=0:=by
 unfold manyE at h
 split at h
 ·cases h
 ·rename_i h0;exact⟨h0,h⟩
theorem nS_le {S:List ByteArray} (h:manyE S=0) (hs:S.length≤1000∧ ∀s∈S,s.size≤5000):nS S≤30000:=by
 have:=manyN_le hs.2;have e:manyN S=nS S:=by unfold manyN nS;rw[if_pos h]
 omega
theorem LayOk.step {s:Lst} {b:Br} {t:List Br} (h:LayOk s (b::t)) (hs:Small b):LayOk (layStep s b) t:=by
 obtain⟨h1,h2,h3,h4⟩:=checkE_cons h.c;have hN:=nS_le h2 hs
 have hl:(layStep s b).out.length=b.at_.toNat+nS b.S:=by
  unfold layStep;simp only[List.length_append,List.length_replicate,pks_len];omega
 have ha:=h1.2.2;refine⟨?_,?_,?_,?_⟩
 ·rw[hl]
  have:((b.at_.toNat+nS b.S:Nat):Int)=b.at_+nS b.S:=by omega
  rw[this];exact h4
 ·intro p hp
  unfold layStep at hp;simp only[List.mem_append]at hp;rcases hp with(hp|hp)|hp
  ·exact h.ok p hp
  ·rw[List.eq_of_mem_replicate hp];exact nil_ok
  ·exact pks_ok h1.1 (by have:=h1.2.1;omega) (many_first h2).2 p hp
 ·intro x
  unfold layStep;dsimp only
  split
  ·omega
  ·exact h.nx x
 ·rw[hl];omega
structure Lw (w wr:World) (g q:Nat) (v:Value) (out:List Pkt) (nx:Int→Nat):Prop where
 b:BuV wr g (g+2) v (Lib.byteCells (airL out))
 m: ∃D:DataW Unit,wr.ownsMap Tryz.prog 3 (plainElem Tryz.prog 3) (g+1) q D∧ ∀x,D.atKey (.int .i64 x) (.lit (.int .i64 0))= .lit (.int .i64 (nx x:Int))
 be:Below w.heap.size w wr
 gw:w.heap.size≤g
theorem Lw.below {w wr wr':World} {g q:Nat} {v:Value} {out:List Pkt} {nx:Int→Nat} (h:Lw w wr g q v out nx) (hb:Below wr.heap.size wr wr'):Lw w wr' g q v out nx:=by
 obtain⟨h1,⟨D,h2,h3⟩,h4,h5⟩:=h;exact⟨h1.below hb,⟨D,h2.kept (only_of_below hb none) (by simp),h3⟩,h4.trans (hb.mono h4.size),h5⟩
set_option maxRecDepth 100000
end Go.Proofs.YtibjkhepedfpiaaGreatDoor.PkL
