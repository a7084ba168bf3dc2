import Derived.Test.YtibjkhepedfpiaaGreatDoorSgPkU
import Derived.Test.YtibjkhepedfpiaaGreatDoorSgLyM
namespace Go.Proofs.YtibjkhepedfpiaaGreatDoor.SbP
open Go St BiH SeG SeC TmA PaA PaP PaK SlM SlP SlR SlS SlW PkL BuA BuB BuF StP RdW LyA LyB LyM
theorem pa_m {p:MpA.Mp} (h:p.chk=0):paE p.enc=0:=by
 obtain⟨c,hc,_⟩:=MpP.enc_bl h;have h0:at0 p.enc 0=62:=by rw[SeP.at0_bl (c:=62) (by rw[hc];rfl)];rfl
 have he:p.enc=bytesS p.sec:=by unfold MpA.Mp.enc;rw[if_pos h]
 obtain⟨_,_,h1,h2⟩:=SeP.enc_dec (MpA.sec_ok h);rw[←he]at h1 h2;have hs:p.enc.size=p.sec.body.size+12:=by rw[he,SeP.bytes_size]
 unfold paE;rw[if_neg (by rw[h1];decide),h2,hs,if_neg (by omega),if_neg (by omega),if_neg (by rw[h0];decide)]
theorem pa_f {p:FcA.Fp} (h:p.chk=0):paE p.enc=0:=by
 obtain⟨c,hc,_⟩:=FcP.enc_bl h;have h0:at0 p.enc 0=120:=by rw[SeP.at0_bl (c:=120) (by rw[hc];rfl)];rfl
 have he:p.enc=bytesS p.sec:=by unfold FcA.Fp.enc;rw[if_pos h]
 obtain⟨_,_,h1,h2⟩:=SeP.enc_dec (FcA.sec_ok h);rw[←he]at h1 h2;have hs:p.enc.size=p.sec.body.size+12:=by rw[he,SeP.bytes_size]
 unfold paE;rw[if_neg (by rw[h1];decide),h2,hs,if_neg (by omega),if_neg (by omega),if_neg (by rw[h0];decide)]
theorem stamp_more {t:ByteArray} {d:Int} (h:tmE t=0) (hd:0≤d∧d≤4095):paE (stS t d)=0∧ ∀d',stS (stS t d) d'=stS t d':=by
 rcases tm_part h with⟨_,p,hp,rfl⟩|⟨_,_,p,hp,rfl⟩
 ·have c0:=chk_m hp d
  rw[if_pos hd]at c0;rw[(st_m hp d).2];refine⟨pa_m c0,fun d'=>?_⟩;rw[(st_m c0 d').2,(st_m hp d').2];rfl
 ·have c0:=chk_f hp d
  rw[if_pos hd]at c0;rw[(st_f hp d).2];refine⟨pa_f c0,fun d'=>?_⟩;rw[(st_f c0 d').2,(st_f hp d').2];rfl
abbrev slotOk (n u:Int):Prop:=0≤n∧n<1099511627776∧1≤u∧u≤1048576
def dlD (fr tw u:Int):Int:=(tw-fr+u-1)/u
noncomputable def sdS (u:Int) (tw:Option Int) (s:ByteArray) (fr:Int):ByteArray:=
 if tmE s≠0 then s else match tw with
  |none=>stS s 0
  |some t=>stS s (dlD fr t u)
def endsOf (b:Br):List Int:=(stS (b.at_-1) 0 (b.S.map ByteArray.size)).map Prod.snd
def afterO (pid:Int) (t:List Br):Option Int:=(t.find? (fun y=>decide (y.pid=pid))).map Br.at_
noncomputable def stB (u:Int) (b:Br) (t:List Br):Br:=⟨b.pid,b.at_,List.zipWith (sdS u (afterO b.pid t)) b.S (endsOf b)⟩
noncomputable def stpL (u:Int):List Br→List Br
 |[]=>[]
 |b::t=>stB u b t::stpL u t
structure Dom (u:Int) (L:List Br):Prop where
 u:1≤u∧u≤1048576
 c:checkE 0 L=0
 e:endE 0 L≤4000
theorem ends_len (b:Br):(endsOf b).length=b.S.length:=by
 unfold endsOf;rw[List.length_map,stS_len,List.length_map]
theorem en_lt (x:Int) (P:List Pkt): ∀i,∀e∈(rdUp x P i).en,0≤e∧e<i
 |0,e,h=>by cases h
 |i+1,e,h=>by
  rw[rdUp]at h;have ih:=fun e h=>en_lt x P i e h
  split at h
  ·split at h
   ·unfold rdOne at h
    split at h
    ·simp only[List.mem_append]at h
     rcases h with(h|h)|h
     ·have:=ih e h;omega
     ·split at h
      ·simp at h;omega
      ·cases h
     ·obtain⟨_,_,rfl⟩:=List.mem_map.1 h;omega
    ·simp only[List.mem_append]at h
     rcases h with h|h
     ·have:=ih e h;omega
     ·split at h
      ·simp at h;omega
      ·cases h
   ·have:=ih e h;omega
  ·have:=ih e h;omega
theorem ends_in {b:Br} (h:checkE 0 [b]=0): ∀e∈endsOf b,0≤e∧e<b.at_+manyN b.S:=fun e he=>by
 obtain⟨h1,h2,_,_⟩:=checkE_cons h;have:=(got_slots h).2;rw[show(stS (b.at_-1) 0 (b.S.map ByteArray.size)).map Prod.snd=endsOf b from rfl]at this;rw[←this]at he;have h3:=en_lt b.pid (layF [b]).out (layF [b]).out.length e he;have h4:=lay_len h;rw[h4]at h3;exact h3
theorem check_one: ∀(L:List Br) (e:Int),checkE e L=0→ ∀b∈L,0≤e→checkE 0 [b]=0
 |a::t,e,h,b,hb,h0=>by
  obtain⟨h1,h2,h3,h4⟩:=checkE_cons h;rcases List.mem_cons.1 hb with rfl|hb
  ·rw[checkE,if_neg (by simpa using h1),if_neg (by simpa using h2),if_neg (by have:=h1.2.2.1;omega)]
   rfl
  ·exact check_one t _ h4 b hb (by have:=h1.2.2.1;omega)
theorem end_ge: ∀(L:List Br) (e:Int),checkE e L=0→e≤endE e L∧ ∀b∈L,b.at_+manyN b.S≤endE e L∧e≤b.at_
 |[],e,_=>⟨Int.le_refl _,fun b hb=>by cases hb⟩
 |a::t,e,h=>by
  obtain⟨h1,h2,h3,h4⟩:=checkE_cons h;have em:(manyN a.S:Int)=nS a.S:=by unfold manyN nS;rw[if_pos h2]
  rw[←em]at h4;obtain⟨i1,i2⟩:=end_ge t _ h4;rw[endE];refine⟨by omega,fun b hb=>?_⟩;rcases List.mem_cons.1 hb with rfl|hb
  ·exact⟨i1,h3⟩
  ·have:=i2 b hb;exact⟨this.1,by omega⟩
theorem after_mem {pid tw:Int} {t:List Br} (h:afterO pid t=some tw): ∃y∈t,y.at_=tw:=by
 unfold afterO at h;rw[Option.map_eq_some_iff]at h;obtain⟨y,h1,h2⟩:=h;exact⟨y,List.mem_of_find?_eq_some h1,h2⟩
theorem delta_ok {u fr tw:Int} (hu:1≤u) (h0:0≤fr) (h1:fr≤tw) (h2:tw≤4000):0≤dlD fr tw u∧dlD fr tw u≤4095:=by
 unfold dlD;refine⟨Int.ediv_nonneg (by omega) (by omega),?_⟩
 have:(tw-fr+u-1)/u<4096:=Int.ediv_lt_of_lt_mul (by omega) (by
  have:u*1≤u*4095:=Int.mul_le_mul_of_nonneg_left (by omega) (by omega);have h3:4095*1≤4095*u:=Int.mul_le_mul_of_nonneg_left (by omega) (by omega);omega)
 omega
end Go.Proofs.YtibjkhepedfpiaaGreatDoor.SbP
