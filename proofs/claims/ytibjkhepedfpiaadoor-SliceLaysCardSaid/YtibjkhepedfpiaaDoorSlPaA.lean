import Derived.Test.YtibjkhepedfpiaaDoorSlPkS
import Derived.Test.YtibjkhepedfpiaaDoorSlPaR
namespace Go.Proofs.YtibjkhepedfpiaaDoor.PaA
open Go Go.RowKit Q Mem St BiH SeG
def paE (t:ByteArray):Int:=if needE t≠0 then needE t else if t.size<needN t then 10 else if needN t<t.size then 11 else if at0 t 0=255 then 12 else 0
theorem paE_ok {t:ByteArray} (h:paE t=0):needE t=0∧needN t=t.size∧at0 t 0≠255∧3≤t.size:=by
 unfold paE at h;by_cases h1:needE t=0
 ·rw[if_neg (by simpa using h1)]at h
  split at h
  ·omega
  split at h
  ·omega
  split at h
  ·omega
  ·refine⟨h1,by omega,by assumption,?_⟩
   unfold needN at*;rw[if_pos h1]at*;omega
 ·rw[if_pos h1]at h
  exact absurd h h1
theorem needN_le (t:ByteArray):needN t≤4098:=by
 have:=at0_lt t 1;have:=at0_lt t 2;unfold needN nN
 split<;>omega
theorem needE_cases (t:ByteArray):needE t=0∨needE t=10∨needE t=12:=by unfold needE;split;simp;split<;>simp
theorem needN_pos {t:ByteArray} (h:needE t=0):3≤needN t:=by unfold needN;rw[if_pos h];omega
theorem first_ff (t:ByteArray) (h:1≤t.size):(t.extract 0 1).toList=[255]↔at0 t 0=255:=by
 rw[ByteArray.toList_eq]
 have e:(t.extract 0 1).data.toList=(bl t).take 1:=by
  simp[bl]
 rw[e];unfold at0;rw[←Array.getElem?_toList];have hl:1≤(bl t).length:=h;unfold bl at hl ⊢
 cases hd:t.data.toList with
 |nil=>rw[hd]at hl;simp at hl
 |cons x r=>
  simp;constructor
  ·rintro rfl;rfl
  ·intro h;exact UInt8.toNat_inj.1 h
set_option maxRecDepth 100000
theorem rcheck_any (t:ByteArray) (w:World):Calls Tryd.prog 26 #[.string t] w fun e w'=>e= .returned (.int .i64 (paE t))∧Below w.heap.size w w':=by
 have k:=fun V=>rneed_any t V;have hN:=needN_le t;have HC:=Lib.hid (needE_cases t);have HP:=Lib.hid (fun h=>needN_pos (t:=t) h);have hi:=fun(h:0<t.size) (V:World)=>(show(Instr.index 9 (.string t) (.int .i64 0)).run Tryd.prog V= .ok (.int .u8 (at0 t 0:Int)) V from idx_at t 0 h V);have HI:=Lib.hid hi;have HE:=Lib.hid (show paE t=if needE t≠0 then needE t else if t.size<needN t then 10 else if needN t<t.size then 11 else if at0 t 0=255 then 12 else 0 from rfl);obtain⟨E,hE⟩: ∃E,needE t=E:=⟨_,rfl⟩;obtain⟨N,hn⟩: ∃N,needN t=N:=⟨_,rfl⟩;rw[hE]at k HC HP HE;rw[hn]at k hN HP HE;clear hE hn hi;by_cases h0:E=0
 ·subst h0
  have hP:=HP.out rfl;by_cases h1:t.size<N
  ·have t1:decide ((t.size:Int)<(N:Int))=true:=by simp;omega
   have hR:paE t=10:=by rw[HE.out];simp[h1]
   rw[hR]
   go_enter Tryd.func26,Tryd.ntmps26
   go_wp2_with (go_at_call 40;refine(k _).mono ?_;rintro e w' ⟨rfl,hb⟩)
   go_ret;exact⟨rfl,hb⟩
  ·have t1:decide ((t.size:Int)<(N:Int))=false:=by simp;omega
   by_cases h2:N<t.size
   ·have t2:decide ((N:Int)<(t.size:Int))=true:=by simp;omega
    have hR:paE t=11:=by rw[HE.out];simp[h1,h2]
    rw[hR]
    go_enter Tryd.func26,Tryd.ntmps26
    go_wp2_with (go_at_call 40;refine(k _).mono ?_;rintro e w' ⟨rfl,hb⟩)
    go_ret;exact⟨rfl,hb⟩
   ·have t2:decide ((N:Int)<(t.size:Int))=false:=by simp;omega
    have i0:=HI.out (by omega);by_cases h3:at0 t 0=255
    ·have hR:paE t=12:=by rw[HE.out];simp[h1,h2,h3]
     rw[hR];rw[h3]at i0
     go_enter Tryd.func26,Tryd.ntmps26
     go_wp2_with (go_at_call 40;refine(k _).mono ?_;rintro e w' ⟨rfl,hb⟩)
     go_ret;exact⟨rfl,hb⟩
    ·have hR:paE t=0:=by rw[HE.out];simp[h1,h2,h3]
     rw[hR];have t3:((at0 t 0:Int)==255)=false:=by simp;omega
     go_enter Tryd.func26,Tryd.ntmps26
     go_wp2_with (go_at_call 40;refine(k _).mono ?_;rintro e w' ⟨rfl,hb⟩)
     go_ret;exact⟨rfl,hb⟩
 ·have hR:paE t=E:=by rw[HE.out];simp[h0]
  rw[hR];have t0:(E==0)=false:=by simpa using h0
  go_enter Tryd.func26,Tryd.ntmps26
  go_wp2_with (go_at_call 40;refine(k _).mono ?_;rintro e w' ⟨rfl,hb⟩)
  go_ret;exact⟨rfl,hb⟩
theorem check_any (t:ByteArray) (w:World) (hs:t.size≤1099511627776):Calls Tryd.prog 38 #[.string t] w fun e w'=>e= .returned (.int .i64 (paE t))∧Below w.heap.size w w':=by
 have k:=fun V=>need_any t V hs;have hN:=needN_le t;have HC:=Lib.hid (needE_cases t);have HP:=Lib.hid (fun h=>needN_pos (t:=t) h);have HF:=Lib.hid (first_ff t);have HE:=Lib.hid (show paE t=if needE t≠0 then needE t else if t.size<needN t then 10 else if needN t<t.size then 11 else if at0 t 0=255 then 12 else 0 from rfl);obtain⟨E,hE⟩: ∃E,needE t=E:=⟨_,rfl⟩;obtain⟨N,hn⟩: ∃N,needN t=N:=⟨_,rfl⟩;rw[hE]at k HC HP HE;rw[hn]at k hN HP HE;clear hE hn;by_cases h0:E=0
 ·subst h0
  have hP:=HP.out rfl;by_cases h1:t.size<N
  ·have t1:decide ((t.size:Int)<(N:Int))=true:=by simp;omega
   have hR:paE t=10:=by rw[HE.out];simp[h1]
   rw[hR]
   go_enter Tryd.func38,Tryd.ntmps38
   go_wp2_with (go_at_call 57;refine(k _).mono ?_;rintro e w' ⟨rfl,hb⟩)
   go_ret;exact⟨rfl,hb⟩
  ·have t1:decide ((t.size:Int)<(N:Int))=false:=by simp;omega
   by_cases h2:N<t.size
   ·have t2:decide ((N:Int)<(t.size:Int))=true:=by simp;omega
    have hR:paE t=11:=by rw[HE.out];simp[h1,h2]
    rw[hR]
    go_enter Tryd.func38,Tryd.ntmps38
    go_wp2_with (go_at_call 57;refine(k _).mono ?_;rintro e w' ⟨rfl,hb⟩)
    go_ret;exact⟨rfl,hb⟩
   ·have t2:decide ((N:Int)<(t.size:Int))=false:=by simp;omega
    have hle:(1:Int)≤(t.size:Int):=by omega
    have hff:=HF.out (by omega);by_cases h3:at0 t 0=255
    ·have hR:paE t=12:=by rw[HE.out];simp[h1,h2,h3]
     rw[hR];have t3:((t.extract 0 1).toList==[255])=true:=beq_iff_eq.2 (hff.2 h3);clear hff
     go_enter Tryd.func38,Tryd.ntmps38
     go_wp2_with (go_at_call 57;refine(k _).mono ?_;rintro e w' ⟨rfl,hb⟩)
     go_ret;exact⟨rfl,hb⟩
    ·have hR:paE t=0:=by rw[HE.out];simp[h1,h2,h3]
     rw[hR];have t3:((t.extract 0 1).toList==[255])=false:=beq_eq_false_iff_ne.2 (fun e=>h3 (hff.1 e));clear hff
     go_enter Tryd.func38,Tryd.ntmps38
     go_wp2_with (go_at_call 57;refine(k _).mono ?_;rintro e w' ⟨rfl,hb⟩)
     go_ret;exact⟨rfl,hb⟩
 ·have hR:paE t=E:=by rw[HE.out];simp[h0]
  rw[hR];have t0:(E==0)=false:=by simpa using h0
  go_enter Tryd.func38,Tryd.ntmps38
  go_wp2_with (go_at_call 57;refine(k _).mono ?_;rintro e w' ⟨rfl,hb⟩)
  go_ret;exact⟨rfl,hb⟩
end Go.Proofs.YtibjkhepedfpiaaDoor.PaA
