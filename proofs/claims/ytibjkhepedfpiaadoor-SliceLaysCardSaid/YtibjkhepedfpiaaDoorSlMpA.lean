import Derived.Test.YtibjkhepedfpiaaDoorSlPkD
import Derived.Test.YtibjkhepedfpiaaDoorSlPkT
namespace Go.Proofs.YtibjkhepedfpiaaDoor.MpA
open Go Go.RowKit Q Mem Rg Ap St BiP SeA SeC SeE SeP TmA TmB DgB DgC
structure Mp where
 mac:Int
 times:Ti
 text:ByteArray
def Mp.vals (p:Mp):Array Value:= #[.int .i64 p.mac,.int .i64 p.times.delta,.bool p.times.table,.bool p.times.frame,.int .i64 p.times.at_,.string p.text]
def Mp.ok (p:Mp):Prop:=0≤p.mac∧p.mac≤65535
instance (p:Mp):Decidable p.ok:=by unfold Mp.ok;infer_instance
def Mp.chk (p:Mp):Int:=if p.ok∧p.times.ok then dgE p.text else 15
def Mp.sec (p:Mp):Sc:=⟨62,false,p.mac,0,true,0,0,encT p.times++p.text⟩
def Mp.enc (p:Mp):ByteArray:=if p.chk=0 then bytesS p.sec else nob
theorem dg_size {s:ByteArray} (h:dgE s=0):s.size≤4080:=by
 unfold dgE at h;by_cases h1:pkE s=0
 ·have h2:=(pk_ok h1).2.2.2
  rw[if_neg (by simpa using h1)]at h
  split at h
  ·omega
  ·split at h
   ·omega
   ·omega
 ·rw[if_pos h1]at h;exact absurd h h1
theorem mchk_zero {p:Mp} (h:p.chk=0):p.ok∧p.times.ok∧dgE p.text=0:=by
 unfold Mp.chk at h
 split at h
 ·rename_i hk
  exact⟨hk.1,hk.2,h⟩
 ·omega
set_option maxRecDepth 100000
end Go.Proofs.YtibjkhepedfpiaaDoor.MpA
