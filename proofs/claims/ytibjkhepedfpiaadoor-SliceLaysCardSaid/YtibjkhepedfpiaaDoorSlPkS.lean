import Derived.Test.YtibjkhepedfpiaaDoorSlPkB
namespace Go.Proofs.YtibjkhepedfpiaaDoor.SeA
open Go Go.RowKit Q Mem Rg St
structure Sc where
 table:Int
 priv:Bool
 ext:Int
 version:Int
 now:Bool
 number:Int
 last:Int
 body:ByteArray
def Sc.vals (s:Sc):Array Value:= #[.int .i64 s.table,.bool s.priv,.int .i64 s.ext,.int .i64 s.version,.bool s.now,.int .i64 s.number,.int .i64 s.last,.string s.body]
def Sc.ok (s:Sc):Prop:=(0≤s.table∧s.table≤255)∧(0≤s.ext∧s.ext≤65535)∧(0≤s.version∧s.version≤31)∧(0≤s.last∧s.last≤255)∧0≤s.number∧s.number≤s.last
instance (s:Sc):Decidable s.ok:=by unfold Sc.ok;infer_instance
def Sc.chk (s:Sc):Int:=if s.ok then(if 4084<s.body.size then 17 else 0)else 15
set_option maxRecDepth 100000
end Go.Proofs.YtibjkhepedfpiaaDoor.SeA
namespace Go.Proofs.YtibjkhepedfpiaaDoor.SeB
end Go.Proofs.YtibjkhepedfpiaaDoor.SeB
namespace Go.Proofs.YtibjkhepedfpiaaDoor.SeC
open Go Go.RowKit Q Mem Rg Ap St BiP BiW BiF BiA BiG CrB CrC SeA
def flds (s:Sc):List (Nat×Nat):=[(s.table.toNat,8),(1,1),(nb s.priv,1),(3,2),(s.body.size+9,12),(s.ext.toNat,16),(3,2),(s.version.toNat,5),(nb s.now,1),(s.number.toNat,8),(s.last.toNat,8)]
def fbits (F:List (Nat×Nat)):List Bool:=F.flatMap fun f=>bitsOf f.1 f.2
def frontL (s:Sc):List UInt8:=[UInt8.ofNat s.table.toNat,UInt8.ofNat (176+64*nb s.priv+(s.body.size+9)/256),UInt8.ofNat ((s.body.size+9)%256),UInt8.ofNat (s.ext.toNat/256),UInt8.ofNat (s.ext.toNat%256),UInt8.ofNat (192+2*s.version.toNat+nb s.now),UInt8.ofNat s.number.toNat,UInt8.ofNat s.last.toNat]
theorem front_bits (s:Sc) (h:s.ok) (hb: ¬4084<s.body.size):pk (fbits (flds s)++bitsL (bl s.body))=frontL s++bl s.body:=by
 obtain⟨⟨_,a2⟩,⟨_,b2⟩,⟨_,c2⟩,⟨_,d2⟩,_,f2⟩:=h;have hp:=nb_le s.priv;have hn:=nb_le s.now;obtain⟨n,hN⟩: ∃n,s.body.size+9=n:=⟨_,rfl⟩
 have hx:fbits (flds s)=bitsOf s.table.toNat 8++(bitsOf (176+64*nb s.priv+n/256) 8++(bitsOf (n%256) 8++(bitsOf (s.ext.toNat/256) 8++(bitsOf (s.ext.toNat%256) 8++(bitsOf (192+2*s.version.toNat+nb s.now) 8++(bitsOf s.number.toNat 8++(bitsOf s.last.toNat 8++[]))))))):=by
  have e1:bitsOf 1 1++(bitsOf (nb s.priv) 1++(bitsOf 3 2++bitsOf n 12))=bitsOf (176+64*nb s.priv+n/256) 8++bitsOf (n%256) 8:=by
   rw[bitsOf_join 3 n 2 12 (by omega),bitsOf_join (nb s.priv) _ 1 14 (by omega),bitsOf_join 1 _ 1 15 (by omega),bitsOf_join _ (n%256) 8 8 (by omega)];exact congrArg (fun x=>bitsOf x 16) (by omega)
  have e2:bitsOf 3 2++(bitsOf s.version.toNat 5++bitsOf (nb s.now) 1)=bitsOf (192+2*s.version.toNat+nb s.now) 8:=by
   rw[bitsOf_join s.version.toNat _ 5 1 (by omega),bitsOf_join 3 _ 2 6 (by omega)];exact congrArg (fun x=>bitsOf x 8) (by omega)
  unfold fbits flds;simp only[List.flatMap_cons,List.flatMap_nil,hN];rw[←List.append_assoc (bitsOf (176+64*nb s.priv+n/256) 8),←e1,←List.append_assoc (bitsOf (s.ext.toNat/256) 8),←bitsOf_two,←e2];simp only[List.append_assoc]
 rw[hx];simp only[List.append_assoc,List.nil_append,pk_cons,pk_bytes];unfold frontL;rw[hN];rfl
def bytesS (s:Sc):ByteArray:=str (sealL (frontL s++bl s.body))
set_option maxRecDepth 100000
theorem fl_le {T P N E V Q M L k:Nat} {f:Nat×Nat} (hf:[(T,8),(1,1),(P,1),(3,2),(N+9,12),(E,16),(3,2),(V,5),(Q,1),(M,8),(L,8)][k]? =some f) (h:T<65536∧P<65536∧N<65000∧E<65536∧V<65536∧Q<65536∧M<65536∧L<65536):f.1<65536∧f.2≤16:=by
 match k,hf with
 |0,hf|1,hf|2,hf|3,hf|4,hf|5,hf|6,hf|7,hf|8,hf|9,hf|10,hf=>injection hf with hf;subst hf;dsimp only;omega
 |_+11,hf=>simp at hf
theorem fbits_snoc {F:List (Nat×Nat)} {k:Nat} {f:Nat×Nat} (h:F[k]? =some f):fbits (F.take (k+1))=fbits (F.take k)++bitsOf f.1 f.2:=by rw[List.take_add_one,h];simp[fbits]
theorem fbits_len {F:List (Nat×Nat)} (h: ∀f∈F,f.2≤16):(fbits F).length≤16*F.length:=by
 induction F with
 |nil=>simp[fbits]
 |cons f t ih=>
  have h1:=h f (List.mem_cons_self ..);have h2:=ih (fun x hx=>h x (List.mem_cons_of_mem _ hx));simp only[fbits,List.flatMap_cons,List.length_append,bitsOf_len,List.length_cons]at h2 ⊢;omega
end Go.Proofs.YtibjkhepedfpiaaDoor.SeC
namespace Go.Proofs.YtibjkhepedfpiaaDoor.SeD
end Go.Proofs.YtibjkhepedfpiaaDoor.SeD
namespace Go.Proofs.YtibjkhepedfpiaaDoor.SeE
open Go Go.RowKit Q Mem Rg Ap St BiP CrC CrD SeA SeC SeD
end Go.Proofs.YtibjkhepedfpiaaDoor.SeE
namespace Go.Proofs.YtibjkhepedfpiaaDoor.SeG
open Go Go.RowKit Q Mem Rg Ap St BiP BiA BiG BiH
def nN (t:ByteArray):Nat:=at0 t 1%16*256+at0 t 2
def nBad (t:ByteArray):Prop:=(at0 t 1/16≠11∧at0 t 1/16≠15)∨nN t<9∨4093<nN t
instance (t:ByteArray):Decidable (nBad t):=by unfold nBad;infer_instance
def needE (t:ByteArray):Int:=if t.size<3 then 10 else if nBad t then 12 else 0
def needN (t:ByteArray):Nat:=if needE t=0 then nN t+3 else 0
set_option maxRecDepth 100000
set_option maxHeartbeats 800000 in
theorem rneed_any (t:ByteArray) (w:World):Calls Tryd.prog 40 #[.string t] w fun e w'=>e= .returned (.tuple #[.int .i64 (needN t:Nat),.int .i64 (needE t)])∧Below w.heap.size w w':=by
 by_cases h3:t.size<3
 ·have t1:decide ((t.size:Int)<3)=true:=by simp;omega
  have HE:=Lib.hid (show needE t=10∧needN t=0 by simp[needE,needN,h3]);clear h3
  go_enter Tryd.func40,Tryd.ntmps40
  go_wp2_with fail
  go_ret2
  exact⟨by rw[HE.out.1,HE.out.2];rfl,Below.refl _ _⟩
 ·have t1:decide ((t.size:Int)<3)=false:=by simp;omega
  have i1: ∀V:World,(Instr.index 9 (.string t) (.int .i64 1)).run Tryd.prog V= .ok (.int .u8 (at0 t 1:Int)) V:=fun V=>idx_at t 1 (by omega) V;have i2: ∀V:World,(Instr.index 9 (.string t) (.int .i64 2)).run Tryd.prog V= .ok (.int .u8 (at0 t 2:Int)) V:=fun V=>idx_at t 2 (by omega) V;have l1:=at0_lt t 1;have l2:=at0_lt t 2
  have hE:needE t=if((at0 t 1/16≠11∧at0 t 1/16≠15)∨at0 t 1%16*256+at0 t 2<9∨4093<at0 t 1%16*256+at0 t 2)then 12 else 0:=by
   unfold needE;rw[if_neg h3];rfl
  have hN:needN t=if needE t=0 then at0 t 1%16*256+at0 t 2+3 else 0:=rfl;obtain⟨a,ha⟩: ∃a,at0 t 1=a:=⟨_,rfl⟩;obtain⟨b,hb⟩: ∃b,at0 t 2=b:=⟨_,rfl⟩;rw[ha]at i1 l1 hE hN;rw[hb]at i2 l2 hE hN;have HE:=Lib.hid hE;have HN:=Lib.hid hN;have q1:IntKind.i64.wrap (a:Int)=(a:Int):=by rw[IntKind.wrap_i64];omega
  have q2:IntKind.i64.wrap (b:Int)=(b:Int):=by rw[IntKind.wrap_i64];omega
  have z1:(a:Int)≤255:=by omega
  have z2:(b:Int)≤255:=by omega
  have z3:(0:Int)≤(a:Int):=by omega
  have z4:(0:Int)≤(b:Int):=by omega
  clear h3 ha hb hE hN l1 l2
  go_enter Tryd.func40,Tryd.ntmps40
  go_wp2_with fail
  refine Go.Proofs.YtibjkhepedfpiaaDoor.Q.region_ext (by kernel_rfl) (by kernel_rfl) ?_
  repeat (go_big_quiet_step (fail))
  refine wpQuiet_nil ?_;rintro w9 ⟨pq,rfl⟩;have HB:=Lib.hid (below_ext w pq)
  go_wp2_with fail
  all_goals
   go_ret2
   refine⟨?_,HB.out⟩;have hE:=HE.out;have hN:=HN.out
   first
    |(rw[if_pos (by omega)]at hE;rw[hE,if_neg (by decide)]at hN;rw[hN,hE];rfl)
    |(rw[if_neg (by omega)]at hE;rw[hE,if_pos rfl]at hN;rw[hN,hE];simp;done)
theorem wrap63 (n:Nat) (h:n<9223372036854775808):IntKind.i64.wrap (n:Int)=(n:Int):=by rw[IntKind.wrap_i64];omega
set_option maxHeartbeats 1600000 in
theorem need_any (t:ByteArray) (w:World) (hs:t.size≤1099511627776):Calls Tryd.prog 57 #[.string t] w fun e w'=>e= .returned (.tuple #[.int .i64 (needN t:Nat),.int .i64 (needE t)])∧Below w.heap.size w w':=by
 by_cases h3:t.size<3
 ·have t1:decide ((t.size:Int)<3)=true:=by simp;omega
  have HE:=Lib.hid (show needE t=10∧needN t=0 by simp[needE,needN,h3]);clear h3
  go_enter Tryd.func57,Tryd.ntmps57
  go_wp2_with fail
  go_ret2
  exact⟨by rw[HE.out.1,HE.out.2];rfl,Below.refl _ _⟩
 ·have t1:decide ((t.size:Int)<3)=false:=by simp;omega
  have l1:=at0_lt t 1;have l2:=at0_lt t 2
  have hE:needE t=if((at0 t 1/16≠11∧at0 t 1/16≠15)∨at0 t 1%16*256+at0 t 2<9∨4093<at0 t 1%16*256+at0 t 2)then 12 else 0:=by
   unfold needE;rw[if_neg h3];rfl
  have hN:needN t=if needE t=0 then at0 t 1%16*256+at0 t 2+3 else 0:=rfl;have hg1:gb t 8 1=at0 t 1/128:=by have:=gb_in t 1 0 1 (by omega);simp only[Nat.mul_one,Nat.add_zero]at this;rw[this];simp;omega
  have hg2:gb t 10 2=at0 t 1/16%4:=by have:=gb_in t 1 2 2 (by omega);simpa using this
  have hg3:gb t 12 12=at0 t 1%16*256+at0 t 2:=by
   have h1:=gb_in t 1 4 4 (by omega);have h2:=gb_byte t 2;rw[gb_split t 12 4 8];simp only[Nat.reduceMul,Nat.reduceAdd,Nat.reduceSub,Nat.reducePow,Nat.div_one]at h1 h2 ⊢;rw[h1,h2]
  have k0:=fun V=>read_any t V;have HB:=Lib.hid (bk1 w 138 (inC 0 t));have kg:=fun(W:World) (a n:Nat) (h:Bk w W [(w.heap.size,138,inC a t)]) h1 h2=>get_bk (n:=n) h (Nat.le_refl _) (by simp) hs h1 h2;have HK:=Lib.hid kg;obtain⟨S,hS⟩: ∃S,t.size=S:=⟨_,rfl⟩;have h24:24≤8*S:=by omega
  rw[hS]at HK;have HS:=Lib.hid hS;obtain⟨y,hy⟩: ∃y,at0 t 1/128=y:=⟨_,rfl⟩;obtain⟨z,hz⟩: ∃z,at0 t 1/16%4=z:=⟨_,rfl⟩;obtain⟨m,hm⟩: ∃m,at0 t 1%16*256+at0 t 2=m:=⟨_,rfl⟩;rw[hy]at hg1;rw[hz]at hg2;rw[hm]at hg3;have HG1:=Lib.hid hg1;have HG2:=Lib.hid hg2;have HG3:=Lib.hid hg3;have HY:=Lib.hid (And.intro hy l1);have HZ:=Lib.hid hz;have HM:=Lib.hid (show at0 t 1%16*256+at0 t 2=m∧m≤4095 from⟨hm,by omega⟩);have HE:=Lib.hid hE;have HN:=Lib.hid hN;clear kg h3 hE hN hy hz hm hg1 hg2 hg3 l1 l2
  go_enter Tryd.func57,Tryd.ntmps57
  go_wp2_with fail
  (with_reducible refine(k0 _).mono ?_);rintro e1 W0 ⟨rfl,rfl⟩
  have kg:=HK.out _ 0 8 HB.out (by omega) (by decide);rw[show((8:Nat):Int)=8 from rfl]at kg;clear k0
  go_wp2_with fail
  (with_reducible refine(kg).mono ?_);rintro e1 W1 ⟨rfl,hb1⟩
  have HB1:=Lib.hid hb1;have kg:=HK.out _ 8 1 HB1.out (by omega) (by decide);rw[show((1:Nat):Int)=1 from rfl,HG1.out]at kg;clear hb1
  go_wp2_with fail
  (with_reducible refine(kg).mono ?_);rintro e1 W2 ⟨rfl,hb1⟩
  have HB2:=Lib.hid hb1;have kg:=HK.out _ 9 1 HB2.out (by omega) (by decide);rw[show((1:Nat):Int)=1 from rfl]at kg;clear hb1 HB1
  go_wp2_with fail
  (with_reducible refine(kg).mono ?_);rintro e1 W3 ⟨rfl,hb1⟩
  have HB3:=Lib.hid hb1;clear hb1 HB2 kg;by_cases hy:y=1
  ·have t2:((y:Int)==1)=true:=by simp;omega
   have kg:=HK.out _ 10 2 HB3.out (by omega) (by decide);rw[show((2:Nat):Int)=2 from rfl,HG2.out]at kg;have HY1:=Lib.hid hy;clear hy
   go_wp2_with fail
   (with_reducible refine(kg).mono ?_);rintro e1 W4 ⟨rfl,hb1⟩
   have HB4:=Lib.hid hb1;have kg:=HK.out _ 12 12 HB4.out (by omega) (by decide);rw[show((12:Nat):Int)=12 from rfl,HG3.out]at kg;have qm:=wrap63 m (by have:=HM.out;omega);clear hb1 HB3
   go_wp2_with fail
   all_goals
    (with_reducible refine(kg).mono ?_);rintro e1 W5 ⟨rfl,hb1⟩
    have HBE:=Lib.hid hb1.be;have z0:(0:Int)≤(m:Int):=by omega
    have z1:(m:Int)≤4095:=by have:=HM.out;omega
    clear hb1
    go_wp2_with fail
   all_goals
    go_ret2
    refine⟨?_,HBE.out⟩;have hE:=HE.out;have hN:=HN.out;have y1:=HY.out;have y2:=HZ.out;have y3:=HM.out;have y4:=HY1.out
    first
     |(rw[if_pos (by omega)]at hE;rw[hE,if_neg (by decide)]at hN;rw[hN,hE];rfl)
     |(rw[if_neg (by omega)]at hE;rw[hE,if_pos rfl,y3.1]at hN;rw[hN,hE];simp;done)
  ·have t2:((y:Int)==1)=false:=by simp;omega
   have kg:=HK.out _ 10 12 HB3.out (by omega) (by decide);rw[show((12:Nat):Int)=12 from rfl]at kg;have HY1:=Lib.hid hy;clear hy
   go_wp2_with fail
   (with_reducible refine(kg).mono ?_);rintro e1 W5 ⟨rfl,hb1⟩
   have HBE:=Lib.hid hb1.be;clear hb1
   go_wp2_with fail
   go_ret2
   refine⟨?_,HBE.out⟩;have hE:=HE.out;have hN:=HN.out;have y1:=HY.out;have y4:=HY1.out;rw[if_pos (by omega)]at hE;rw[hE,if_neg (by decide)]at hN;rw[hN,hE];rfl
end Go.Proofs.YtibjkhepedfpiaaDoor.SeG
namespace Go.Proofs.YtibjkhepedfpiaaDoor.SeEq
open Go Go.RowKit Q Mem St SeA
theorem isEmpty_iff (s:ByteArray):s.toList.isEmpty=decide (s.size=0):=by
 rw[ByteArray.toList_eq];obtain⟨⟨x⟩⟩:=s
 cases x<;>simp[ByteArray.size]
theorem sc_iff {a b:Sc}:a=b↔a.table=b.table∧a.priv=b.priv∧a.ext=b.ext∧a.version=b.version∧a.now=b.now∧a.number=b.number∧a.last=b.last∧a.body=b.body:=⟨fun h=>by subst h;simp,fun⟨h1,h2,h3,h4,h5,h6,h7,h8⟩=>by cases a;cases b;simp_all⟩
instance:DecidableEq Sc:=fun _ _=>decidable_of_iff _ sc_iff.symm
set_option maxRecDepth 100000
end Go.Proofs.YtibjkhepedfpiaaDoor.SeEq
namespace Go.Proofs.YtibjkhepedfpiaaDoor.SeH
open Go Go.RowKit Q Mem Rg Ap St BiP BiA BiG BiH CrC CrD SeA SeC SeG SeEq
set_option maxRecDepth 100000
end Go.Proofs.YtibjkhepedfpiaaDoor.SeH
namespace Go.Proofs.YtibjkhepedfpiaaDoor.SeI
open Go Go.RowKit Q Mem Rg Ap St BiP BiA BiG BiH CrC CrD SeA SeC SeG SeEq SeH
def fBad (u:ByteArray):Prop:=at0 u 5/64≠3∨at0 u 7<at0 u 6
instance (u:ByteArray):Decidable (fBad u):=by unfold fBad;infer_instance
section
variable {P:Program}
set_option maxRecDepth 100000
theorem res_row {fn:Func} {p q:Tmp} {ty:TypeId} (h:fn.results= #[.cell p ty,.tmp q]) (tmps:Array Value) (w:World) (g:Nat) (t:TypeId) (cs:Array Value) (fr:Nat×Nat) (d:TypeDesc)
 (hp:tmps.getD p undef= .pointer (some ⟨g,0,none⟩)) (hg:w.heap[g]? =some (.cells cs t fr))
 (hu:P.underlying ty=some d) (hd:(match d with| .struct _| .array _ _=>true|_=>false)=true) (hi:(P.info? ty).map (·.size)=some cs.size):
 (results fn tmps).run P w= .ok (.tuple #[.agg cs,tmps.getD q undef]) w:=by
 have hp':tmps[p]?.getD undef= .pointer (some ⟨g,0,none⟩):=by simpa using hp
 simp[results,h,hp',asAddr,run_loadVar_row w g t ty cs fr d hg hu hd hi]
end
set_option maxRecDepth 100000
end Go.Proofs.YtibjkhepedfpiaaDoor.SeI
namespace Go.Proofs.YtibjkhepedfpiaaDoor.SeI2
open Go Go.RowKit Q Mem Rg Ap St BiP BiA BiG BiH CrC CrD SeA SeC SeG SeEq SeH SeI
set_option maxRecDepth 100000
end Go.Proofs.YtibjkhepedfpiaaDoor.SeI2
namespace Go.Proofs.YtibjkhepedfpiaaDoor.SeJ
open Go Go.RowKit Q Mem Rg Ap St BiP BiA BiG BiH CrC CrD SeA SeC SeG SeEq SeH SeI
theorem swap {w W:World} {x y:Nat×TypeId×Array Value} {L:List (Nat×TypeId×Array Value)} (h:Bk w W (x::y::L)):Bk w W (y::x::L):=⟨h.be,fun z hz=>h.all z (by simp at hz ⊢;rcases hz with h|h|h;(exact Or.inr (Or.inl h));(exact Or.inl h);(exact Or.inr (Or.inr h)))⟩
set_option maxRecDepth 100000
end Go.Proofs.YtibjkhepedfpiaaDoor.SeJ
namespace Go.Proofs.YtibjkhepedfpiaaDoor.SeK
open Go Go.RowKit Q Mem Rg Ap St BiP BiA BiG BiH CrC CrD SeA SeC SeG SeEq SeH SeI SeJ
set_option maxRecDepth 100000
end Go.Proofs.YtibjkhepedfpiaaDoor.SeK
namespace Go.Proofs.YtibjkhepedfpiaaDoor.SeP
open Go Go.RowKit Q Mem Rg Ap St BiP BiA BiG BiH CrP CrC CrD SeA SeC SeG SeEq SeH SeI SeE
set_option maxRecDepth 100000
theorem at0_bl {s:ByteArray} {i:Nat} {c:UInt8} (h:(bl s)[i]? =some c):at0 s i=c.toNat:=by
 unfold at0 bl at*;rw[Array.getElem?_toList]at h;rw[h];rfl
theorem bytes_bl (s:Sc):bl (bytesS s)=sealL (frontL s++bl s.body):=bl_str _
theorem front_len (s:Sc):(frontL s).length=8:=rfl
theorem bytes_size (s:Sc):(bytesS s).size=s.body.size+12:=by
 rw[←bl_len,bytes_bl,seal_len,List.length_append,front_len,bl_len];omega
theorem at0_str (l:List UInt8) (i:Nat) (c:UInt8) (h:l[i]? =some c):at0 (str l) i=c.toNat:=at0_bl (by rw[bl_str];exact h)
end Go.Proofs.YtibjkhepedfpiaaDoor.SeP
namespace Go.Proofs.YtibjkhepedfpiaaDoor.Turn
open Go Go.RowKit Q Mem Rg Ap St CrP CrC SeA SeC SeE SeG SeEq SeI SeP BiH
theorem any_gen {F:World→Prop} {w:World} (S:World→Prop) (hS:S w) (h: ∀V,S V→F V):F w:=h w hS
end Go.Proofs.YtibjkhepedfpiaaDoor.Turn
