import Derived.Test.YtdbpkhnmhddmmaaGreatDoorRnPkS
namespace Go.Proofs.YtdbpkhnmhddmmaaGreatDoor.JnP
open Go St BiH SeG
structure Pk where
 pid:Int
 start:Bool
 count:Int
 bad:Bool
 body:ByteArray
structure Jn where
 pid:Int
 hold:ByteArray
 fol:Bool
 cnt:Int
 seen:ByteArray
 lost:Nat
def tkJ:Nat→ByteArray→Bool→List ByteArray×ByteArray×Bool×Int
 |0,h,f=>([],h,f,0)
 |k+1,h,f=>if h.size=0 then([],h,f,0)else if at0 h 0=255 then([],nob,false,0)else if h.size<3 then([],h,f,0)else
   if needE h≠0 then([],nob,false,12)else if h.size<needN h then([],h,f,0)else
    (h.extract 0 (needN h)::(tkJ k (h.extract (needN h) h.size) f).1,(tkJ k (h.extract (needN h) h.size) f).2)
def tkO (h:ByteArray) (f:Bool):List ByteArray:=(tkJ (h.size+1) h f).1
def tkH (h:ByteArray) (f:Bool):ByteArray:=(tkJ (h.size+1) h f).2.1
def tkF (h:ByteArray) (f:Bool):Bool:=(tkJ (h.size+1) h f).2.2.1
def tkE (h:ByteArray) (f:Bool):Int:=(tkJ (h.size+1) h f).2.2.2
def worse (a b:Int):Int:=if a=12∨b=0 then a else b
def onO (h:ByteArray) (f:Bool) (s:ByteArray):List ByteArray:=if f then tkO (h++s) f else[]
def onH (h:ByteArray) (f:Bool) (s:ByteArray):ByteArray:=if f then tkH (h++s) f else h
def onF (h:ByteArray) (f:Bool) (s:ByteArray):Bool:=if f then tkF (h++s) f else f
def onE (h:ByteArray) (f:Bool) (s:ByteArray) (e:Int):Int:=if f then worse (tkE (h++s) f) e else e
def pkE (p:Pk):Int:=if p.pid<0∨8192≤p.pid∨p.count<0∨15<p.count then 15 else if 184<p.body.size then 17 else 0
structure Fd where
 o:List ByteArray
 e:Int
 j:Jn
def Jn.drop (j:Jn):Jn:=⟨j.pid,nob,false,0,nob,j.lost⟩
def gap (j:Jn) (p:Pk):Bool:= !decide (j.cnt=0∧j.seen=nob)&&decide (p.count≠(j.cnt+1).tmod 16)
def fd2 (j:Jn) (p:Pk) (e:Int) (lost:Nat) (hold:ByteArray) (fol:Bool):Fd:=
 if p.start then
  let r:=at0 p.body 0
  if p.body.size<r+1 then⟨[],12,⟨j.pid,nob,false,p.count,p.body,lost⟩⟩
  else
   let a:=p.body.extract 1 (r+1)
   let b:=p.body.extract (r+1) p.body.size
   ⟨onO hold fol a++tkO b true,worse (tkE b true) (onE hold fol a e),⟨j.pid,tkH b true,tkF b true,p.count,p.body,lost⟩⟩
 else⟨onO hold fol p.body,onE hold fol p.body e,⟨j.pid,onH hold fol p.body,onF hold fol p.body,p.count,p.body,lost⟩⟩
def feed (j:Jn) (p:Pk):Fd:=
 if pkE p≠0 then⟨[],pkE p,j⟩else if p.pid≠j.pid then⟨[],14,j⟩else if p.body.size=0∨(p.count=j.cnt∧p.body=j.seen)then⟨[],0,j⟩
 else if p.bad then⟨[],21,{j.drop with lost:=j.lost+1}⟩
 else if gap j p then fd2 j p 21 (j.lost+1) nob false else fd2 j p 0 j.lost j.hold j.fol
end Go.Proofs.YtdbpkhnmhddmmaaGreatDoor.JnP
