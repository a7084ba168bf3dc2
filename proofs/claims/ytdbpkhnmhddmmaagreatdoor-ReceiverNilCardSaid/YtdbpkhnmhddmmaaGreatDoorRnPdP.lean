import Derived.Test.YtdbpkhnmhddmmaaGreatDoorRnJnR
namespace Go.Proofs.YtdbpkhnmhddmmaaGreatDoor.PdP
open Go St BiH JnP JnR PkP
def dpE (t:ByteArray):Int:=
 if t.size<188 then 10 else if 188<t.size then 11 else if at0 t 0≠71 then 20
 else if at0 t 3/16%4=1 then 0 else if at0 t 3/16%4=2 then(if at0 t 4≠183 then 12 else 0)else if at0 t 3/16%4=3 then(if 183≤at0 t 4 then 12 else 0)else 12
def dpB (t:ByteArray):ByteArray:=if at0 t 3/16%4=1 then t.extract 4 t.size else if at0 t 3/16%4=3 then t.extract (5+at0 t 4) t.size else nob
def zPk:Pk:=⟨0,false,0,false,nob⟩
def dpP (t:ByteArray):Pk:=if dpE t≠0 then zPk else⟨((at0 t 1%32*256+at0 t 2:Nat):Int),decide (at0 t 1/64%2=1),((at0 t 3%16:Nat):Int),decide (at0 t 1/128=1),dpB t⟩
def Pk.vals (p:Pk):Array Value:= #[.int .i64 p.pid,.bool p.start,.int .i64 p.count,.bool p.bad,.string p.body]
theorem dp_pk {pid count:Nat} {start:Bool} {body:List UInt8} (hp:pid<8192) (hc:count<16) (hb:body.length=184∨body.length=183):
 dpE (str (pkB pid start count body))=0∧dpP (str (pkB pid start count body))=⟨(pid:Int),start,(count:Int),false,str body⟩:=by
 obtain⟨f1,f2,f3,f4,f5⟩:=pkB_front (start:=start) hp hc (body:=body) hb;have fb:=pkB_body (pid:=pid) (count:=count) (start:=start) (body:=body);have hl:=pkB_len (pid:=pid) (count:=count) (start:=start) hb;have hs:(str (pkB pid start count body)).size=188:=by rw[str_size,hl]
 have f0:at0 (str (pkB pid start count body)) 0=71:=by rw[at0_l];rfl
 have h4:body.length≠184→at0 (str (pkB pid start count body)) 4=0:=fun h=>by
  rw[at0_l];unfold pkB;rw[if_neg h,if_neg h];rfl
 rw[←at0_l,←at0_l]at f1;rw[←at0_l]at f2 f3 f4 f5
 have hE:dpE (str (pkB pid start count body))=0:=by
  unfold dpE;rw[if_neg (by omega),if_neg (by omega),if_neg (by rw[f0];decide),f5];by_cases e:body.length=184
  ·rw[if_pos e,if_pos rfl]
  ·rw[if_neg e,if_neg (by decide),if_neg (by decide),if_pos rfl,h4 e]
   rfl
 refine⟨hE,?_⟩;unfold dpP;rw[if_neg (by rw[hE];decide),f1,f4]
 have hbo:dpB (str (pkB pid start count body))=str body:=by
  unfold dpB;rw[f5];by_cases e:body.length=184
  ·rw[if_pos e,if_pos rfl,str_ext,str_size]
   rw[if_pos e]at fb;rw[fb,List.take_of_length_le (by omega)]
  ·rw[if_neg e,if_neg (by decide),if_pos rfl,h4 e,str_ext,str_size]
   rw[if_neg e]at fb;show str (((pkB pid start count body).drop 5).take _)=_;rw[fb,List.take_of_length_le (by omega)]
 rw[hbo,decide_eq_false (show ¬at0 (str (pkB pid start count body)) 1/128=1 by omega)]
 congr 1
 rw[f2]
 cases start<;>rfl
end Go.Proofs.YtdbpkhnmhddmmaaGreatDoor.PdP
