import Derived.Test.YtibjkhepedfpiaaGreatDoorSgPkB
namespace Go.Proofs.YtibjkhepedfpiaaGreatDoor.SeA
open Go Go.RowKit Q Mem Rg St
structure Sc where
 table:Int
 priv:Bool
 ext:Int
 version:Int
 now:Bool
 number:Int
 last:Int
 body:ByteArray
def Sc.vals (s:Sc):Array Value:= #[.int .i64 s.table,.bool s.priv,.int .i64 s.ext,.int .i64 s.version,.bool s.now,.int .i64 s.number,.int .i64 s.last,.string s.body]
def inR (m x:Int):Bool:=decide (0≤x)&&decide (x≤m)
theorem inR_true {m x:Int} (h:inR m x=true):0≤x∧x≤m:=by simpa [inR]using h
theorem inR_false {m x:Int} (h:inR m x=false): ¬(0≤x∧x≤m):=by
 intro h';have:inR m x=true:=by simpa [inR]using h'
 rw[h]at this;cases this
def Sc.ok (s:Sc):Prop:=(0≤s.table∧s.table≤255)∧(0≤s.ext∧s.ext≤65535)∧(0≤s.version∧s.version≤31)∧(0≤s.last∧s.last≤255)∧0≤s.number∧s.number≤s.last
instance (s:Sc):Decidable s.ok:=by unfold Sc.ok;infer_instance
def Sc.chk (s:Sc):Int:=if s.ok then(if 4084<s.body.size then 17 else 0)else 15
theorem chk_no {s:Sc} (h: ¬s.ok):s.chk=15:=by unfold Sc.chk;rw[if_neg h]
theorem chk_full {s:Sc} (h:s.ok) (h2:4084<s.body.size):s.chk=17:=by unfold Sc.chk;rw[if_pos h,if_pos h2]
theorem chk_ok {s:Sc} (h:s.ok) (h2: ¬4084<s.body.size):s.chk=0:=by unfold Sc.chk;rw[if_pos h,if_neg h2]
set_option maxRecDepth 100000
theorem within8 (x:Int) (w:World):Calls Tryz.prog 167 #[.int .i64 x,.int .i64 8] w fun e w'=>e= .returned (.bool (inR 255 x))∧w=w':=by
 unfold inR;by_cases h:0≤x
 ·have t0:decide (0≤x)=true:=by simpa using h
  have HE:=Lib.hid (show(decide (0≤x)&&decide (x≤255))=decide (x<255+1) by rw[t0,Bool.true_and,decide_eq_decide];omega);rw[HE.out];clear h
  go_enter Tryz.func167,Tryz.ntmps167
  go_wp2_with fail
  go_ret;exact⟨rfl,rfl⟩
 ·have t0:decide (0≤x)=false:=by simpa using h
  have HE:=Lib.hid (show(decide (0≤x)&&decide (x≤255))=false by rw[t0,Bool.false_and]);rw[HE.out];clear h
  go_enter Tryz.func167,Tryz.ntmps167
  go_wp2_with fail
  go_ret;exact⟨rfl,rfl⟩
theorem within16 (x:Int) (w:World):Calls Tryz.prog 167 #[.int .i64 x,.int .i64 16] w fun e w'=>e= .returned (.bool (inR 65535 x))∧w=w':=by
 unfold inR;by_cases h:0≤x
 ·have t0:decide (0≤x)=true:=by simpa using h
  have HE:=Lib.hid (show(decide (0≤x)&&decide (x≤65535))=decide (x<65535+1) by rw[t0,Bool.true_and,decide_eq_decide];omega);rw[HE.out];clear h
  go_enter Tryz.func167,Tryz.ntmps167
  go_wp2_with fail
  go_ret;exact⟨rfl,rfl⟩
 ·have t0:decide (0≤x)=false:=by simpa using h
  have HE:=Lib.hid (show(decide (0≤x)&&decide (x≤65535))=false by rw[t0,Bool.false_and]);rw[HE.out];clear h
  go_enter Tryz.func167,Tryz.ntmps167
  go_wp2_with fail
  go_ret;exact⟨rfl,rfl⟩
theorem within5 (x:Int) (w:World):Calls Tryz.prog 167 #[.int .i64 x,.int .i64 5] w fun e w'=>e= .returned (.bool (inR 31 x))∧w=w':=by
 unfold inR;by_cases h:0≤x
 ·have t0:decide (0≤x)=true:=by simpa using h
  have HE:=Lib.hid (show(decide (0≤x)&&decide (x≤31))=decide (x<31+1) by rw[t0,Bool.true_and,decide_eq_decide];omega);rw[HE.out];clear h
  go_enter Tryz.func167,Tryz.ntmps167
  go_wp2_with fail
  go_ret;exact⟨rfl,rfl⟩
 ·have t0:decide (0≤x)=false:=by simpa using h
  have HE:=Lib.hid (show(decide (0≤x)&&decide (x≤31))=false by rw[t0,Bool.false_and]);rw[HE.out];clear h
  go_enter Tryz.func167,Tryz.ntmps167
  go_wp2_with fail
  go_ret;exact⟨rfl,rfl⟩
theorem flag_any (b:Bool) (w:World):Calls Tryz.prog 152 #[.bool b] w fun e w'=>e= .returned (.int .u64 (if b then 1 else 0))∧w=w':=by
 cases b
 all_goals
  go_enter Tryz.func152,Tryz.ntmps152
  go_wp2_with fail
  go_ret;exact⟨rfl,rfl⟩
theorem check_any (s:Sc) (w:World):Calls Tryz.prog 151 #[.agg s.vals] w fun e w'=>e= .returned (.int .i64 s.chk)∧Below w.heap.size w w':=by
 have h1:= @chk_no s;have h2:= @chk_full s;have h3:= @chk_ok s;unfold Sc.ok at h1 h2 h3;obtain⟨t,p,e,v,n,m,l,b⟩:=s;dsimp only at h1 h2 h3;have HB:=Lib.hid (show Below w.heap.size w (w.alloc (.cells #[.int .i64 t,.bool p,.int .i64 e,.int .i64 v,.bool n,.int .i64 m,.int .i64 l,.string b] 235))from(Below.refl _ _).alloc (Nat.le_refl _) _);obtain⟨c,hc⟩: ∃c,Sc.chk ⟨t,p,e,v,n,m,l,b⟩=c:=⟨_,rfl⟩;rw[hc]at h1 h2 h3 ⊢;clear hc;unfold Sc.vals;have k1:=fun V=>within8 t V;have k2:=fun V=>within16 e V;have k3:=fun V=>within5 v V;have k4:=fun V=>within8 l V
 cases b1:inR 255 t with
 |false=>
  have HE:=Lib.hid (h1 (fun h=>inR_false b1 h.1));rw[b1]at k1;clear h1 h2 h3 b1
  go_enter Tryz.func151,Tryz.ntmps151
  go_wp2_with fail
  (with_reducible refine(k1 _).mono ?_);rintro e1 W1 ⟨rfl,rfl⟩
  go_wp2_with fail
  go_ret;exact⟨by rw[HE.out];rfl,HB.out⟩
 |true=>
  rw[b1]at k1
  cases b2:inR 65535 e with
  |false=>
   have HE:=Lib.hid (h1 (fun h=>inR_false b2 h.2.1));rw[b2]at k2;clear h1 h2 h3 b1 b2
   go_enter Tryz.func151,Tryz.ntmps151
   go_wp2_with fail
   (with_reducible refine(k1 _).mono ?_);rintro e1 W1 ⟨rfl,rfl⟩
   go_wp2_with fail
   (with_reducible refine(k2 _).mono ?_);rintro e1 W1 ⟨rfl,rfl⟩
   go_wp2_with fail
   go_ret;exact⟨by rw[HE.out];rfl,HB.out⟩
  |true=>
   rw[b2]at k2
   cases b3:inR 31 v with
   |false=>
    have HE:=Lib.hid (h1 (fun h=>inR_false b3 h.2.2.1));rw[b3]at k3;clear h1 h2 h3 b1 b2 b3
    go_enter Tryz.func151,Tryz.ntmps151
    go_wp2_with fail
    (with_reducible refine(k1 _).mono ?_);rintro e1 W1 ⟨rfl,rfl⟩
    go_wp2_with fail
    (with_reducible refine(k2 _).mono ?_);rintro e1 W1 ⟨rfl,rfl⟩
    go_wp2_with fail
    (with_reducible refine(k3 _).mono ?_);rintro e1 W1 ⟨rfl,rfl⟩
    go_wp2_with fail
    go_ret;exact⟨by rw[HE.out];rfl,HB.out⟩
   |true=>
    rw[b3]at k3
    cases b4:inR 255 l with
    |false=>
     have HE:=Lib.hid (h1 (fun h=>inR_false b4 h.2.2.2.1));rw[b4]at k4;clear h1 h2 h3 b1 b2 b3 b4
     go_enter Tryz.func151,Tryz.ntmps151
     go_wp2_with fail
     (with_reducible refine(k1 _).mono ?_);rintro e1 W1 ⟨rfl,rfl⟩
     go_wp2_with fail
     (with_reducible refine(k2 _).mono ?_);rintro e1 W1 ⟨rfl,rfl⟩
     go_wp2_with fail
     (with_reducible refine(k3 _).mono ?_);rintro e1 W1 ⟨rfl,rfl⟩
     go_wp2_with fail
     (with_reducible refine(k4 _).mono ?_);rintro e1 W1 ⟨rfl,rfl⟩
     go_wp2_with fail
     go_ret;exact⟨by rw[HE.out];rfl,HB.out⟩
    |true=>
     rw[b4]at k4;have hok:=fun h:0≤m∧m≤l=>And.intro (inR_true b1) (And.intro (inR_true b2) (And.intro (inR_true b3) (And.intro (inR_true b4) h)))
     obtain⟨t5,t6,HE⟩: ∃(_:(m<0)∨ ¬(m<0)) (_:(l<m)∨ ¬(l<m)),Hid ((m<0→c=15)∧(l<m→c=15)∧(¬m<0→ ¬l<m→(4084<b.size→c=17)∧(¬4084<b.size→c=0))):=
      ⟨Classical.em _,Classical.em _,Lib.hid ⟨fun h=>h1 (fun h'=>by omega),fun h=>h1 (fun h'=>by omega),fun g1 g2=>⟨fun g=>h2 (hok ⟨by omega,by omega⟩) g,fun g=>h3 (hok ⟨by omega,by omega⟩) g⟩⟩⟩
     clear h1 h2 h3 b1 b2 b3 b4 hok;rcases t5 with t5|t5
     ·have t7:decide (m<0)=true:=by simpa using t5
      replace HE:=Lib.hid (HE.out.1 t5);clear t5 t6
      go_enter Tryz.func151,Tryz.ntmps151
      go_wp2_with fail
      (with_reducible refine(k1 _).mono ?_);rintro e1 W1 ⟨rfl,rfl⟩
      go_wp2_with fail
      (with_reducible refine(k2 _).mono ?_);rintro e1 W1 ⟨rfl,rfl⟩
      go_wp2_with fail
      (with_reducible refine(k3 _).mono ?_);rintro e1 W1 ⟨rfl,rfl⟩
      go_wp2_with fail
      (with_reducible refine(k4 _).mono ?_);rintro e1 W1 ⟨rfl,rfl⟩
      go_wp2_with fail
      go_ret;exact⟨by rw[HE.out];rfl,HB.out⟩
     ·have t7:decide (m<0)=false:=by simpa using t5
      rcases t6 with t6|t6
      ·have t8:decide (l<m)=true:=by simpa using t6
       replace HE:=Lib.hid (HE.out.2.1 t6);clear t5 t6
       go_enter Tryz.func151,Tryz.ntmps151
       go_wp2_with fail
       (with_reducible refine(k1 _).mono ?_);rintro e1 W1 ⟨rfl,rfl⟩
       go_wp2_with fail
       (with_reducible refine(k2 _).mono ?_);rintro e1 W1 ⟨rfl,rfl⟩
       go_wp2_with fail
       (with_reducible refine(k3 _).mono ?_);rintro e1 W1 ⟨rfl,rfl⟩
       go_wp2_with fail
       (with_reducible refine(k4 _).mono ?_);rintro e1 W1 ⟨rfl,rfl⟩
       go_wp2_with fail
       go_ret;exact⟨by rw[HE.out];rfl,HB.out⟩
      ·have t8:decide (l<m)=false:=by simpa using t6
       replace HE:=Lib.hid (HE.out.2.2 t5 t6);clear t5 t6;by_cases h9:4084<b.size
       ·have t9:decide (4084<(b.size:Int))=true:=by simp;omega
        replace HE:=Lib.hid (HE.out.1 h9);clear h9
        go_enter Tryz.func151,Tryz.ntmps151
        go_wp2_with fail
        (with_reducible refine(k1 _).mono ?_);rintro e1 W1 ⟨rfl,rfl⟩
        go_wp2_with fail
        (with_reducible refine(k2 _).mono ?_);rintro e1 W1 ⟨rfl,rfl⟩
        go_wp2_with fail
        (with_reducible refine(k3 _).mono ?_);rintro e1 W1 ⟨rfl,rfl⟩
        go_wp2_with fail
        (with_reducible refine(k4 _).mono ?_);rintro e1 W1 ⟨rfl,rfl⟩
        go_wp2_with fail
        go_ret;exact⟨by rw[HE.out];rfl,HB.out⟩
       ·have t9:decide (4084<(b.size:Int))=false:=by simp;omega
        replace HE:=Lib.hid (HE.out.2 h9);clear h9
        go_enter Tryz.func151,Tryz.ntmps151
        go_wp2_with fail
        (with_reducible refine(k1 _).mono ?_);rintro e1 W1 ⟨rfl,rfl⟩
        go_wp2_with fail
        (with_reducible refine(k2 _).mono ?_);rintro e1 W1 ⟨rfl,rfl⟩
        go_wp2_with fail
        (with_reducible refine(k3 _).mono ?_);rintro e1 W1 ⟨rfl,rfl⟩
        go_wp2_with fail
        (with_reducible refine(k4 _).mono ?_);rintro e1 W1 ⟨rfl,rfl⟩
        go_wp2_with fail
        go_ret;exact⟨by rw[HE.out];rfl,HB.out⟩
end Go.Proofs.YtibjkhepedfpiaaGreatDoor.SeA
namespace Go.Proofs.YtibjkhepedfpiaaGreatDoor.SeB
end Go.Proofs.YtibjkhepedfpiaaGreatDoor.SeB
namespace Go.Proofs.YtibjkhepedfpiaaGreatDoor.SeC
open Go Go.RowKit Q Mem Rg Ap St BiP BiW BiF BiA BiG CrB CrC SeA
def flds (s:Sc):List (Nat×Nat):=[(s.table.toNat,8),(1,1),(nb s.priv,1),(3,2),(s.body.size+9,12),(s.ext.toNat,16),(3,2),(s.version.toNat,5),(nb s.now,1),(s.number.toNat,8),(s.last.toNat,8)]
def fbits (F:List (Nat×Nat)):List Bool:=F.flatMap fun f=>bitsOf f.1 f.2
def frontL (s:Sc):List UInt8:=[UInt8.ofNat s.table.toNat,UInt8.ofNat (176+64*nb s.priv+(s.body.size+9)/256),UInt8.ofNat ((s.body.size+9)%256),UInt8.ofNat (s.ext.toNat/256),UInt8.ofNat (s.ext.toNat%256),UInt8.ofNat (192+2*s.version.toNat+nb s.now),UInt8.ofNat s.number.toNat,UInt8.ofNat s.last.toNat]
theorem front_bits (s:Sc) (h:s.ok) (hb: ¬4084<s.body.size):pk (fbits (flds s)++bitsL (bl s.body))=frontL s++bl s.body:=by
 obtain⟨⟨_,a2⟩,⟨_,b2⟩,⟨_,c2⟩,⟨_,d2⟩,_,f2⟩:=h;have hp:=nb_le s.priv;have hn:=nb_le s.now;obtain⟨n,hN⟩: ∃n,s.body.size+9=n:=⟨_,rfl⟩
 have hx:fbits (flds s)=bitsOf s.table.toNat 8++(bitsOf (176+64*nb s.priv+n/256) 8++(bitsOf (n%256) 8++(bitsOf (s.ext.toNat/256) 8++(bitsOf (s.ext.toNat%256) 8++(bitsOf (192+2*s.version.toNat+nb s.now) 8++(bitsOf s.number.toNat 8++(bitsOf s.last.toNat 8++[]))))))):=by
  have e1:bitsOf 1 1++(bitsOf (nb s.priv) 1++(bitsOf 3 2++bitsOf n 12))=bitsOf (176+64*nb s.priv+n/256) 8++bitsOf (n%256) 8:=by
   rw[bitsOf_join 3 n 2 12 (by omega),bitsOf_join (nb s.priv) _ 1 14 (by omega),bitsOf_join 1 _ 1 15 (by omega),bitsOf_join _ (n%256) 8 8 (by omega)];exact congrArg (fun x=>bitsOf x 16) (by omega)
  have e2:bitsOf 3 2++(bitsOf s.version.toNat 5++bitsOf (nb s.now) 1)=bitsOf (192+2*s.version.toNat+nb s.now) 8:=by
   rw[bitsOf_join s.version.toNat _ 5 1 (by omega),bitsOf_join 3 _ 2 6 (by omega)];exact congrArg (fun x=>bitsOf x 8) (by omega)
  unfold fbits flds;simp only[List.flatMap_cons,List.flatMap_nil,hN];rw[←List.append_assoc (bitsOf (176+64*nb s.priv+n/256) 8),←e1,←List.append_assoc (bitsOf (s.ext.toNat/256) 8),←bitsOf_two,←e2];simp only[List.append_assoc]
 rw[hx];simp only[List.append_assoc,List.nil_append,pk_cons,pk_bytes];unfold frontL;rw[hN];rfl
def bytesS (s:Sc):ByteArray:=str (sealL (frontL s++bl s.body))
set_option maxRecDepth 100000
theorem enc_bad (s:Sc) (w:World) (h:s.chk≠0):Calls Tryz.prog 123 #[.agg s.vals] w fun e w'=>e= .returned (.tuple #[.string nob,.int .i64 s.chk])∧Below w.heap.size w w':=by
 have k1:=check_any s;have HB:=Lib.hid (bk1 w 235 s.vals);obtain⟨c,hc⟩: ∃c,s.chk=c:=⟨_,rfl⟩;rw[hc]at k1 h ⊢;have t1:(c !=0)=true:=by simpa using h
 clear hc h;obtain⟨t,p,e,v,n,m,l,b⟩:=s;unfold Sc.vals at k1 HB ⊢;dsimp only at k1 HB ⊢
 go_enter Tryz.func123,Tryz.ntmps123
 go_wp2_with fail
 (with_reducible refine(k1 _).mono ?_);rintro e1 W1 ⟨rfl,hb1⟩
 have hE:=(HB.out.below hb1).be
 go_wp2_with fail
 go_ret2
 exact⟨rfl,hE⟩
theorem flag_nb (b:Bool) (w:World):Calls Tryz.prog 152 #[.bool b] w fun e w'=>e= .returned (.int .u64 (nb b:Int))∧w=w':=by
 have:=flag_any b w
 cases b<;>exact this
theorem idx_fl (T P N E V Q M L k:Nat) (f:Nat×Nat) (hf:[(T,8),(1,1),(P,1),(3,2),(N+9,12),(E,16),(3,2),(V,5),(Q,1),(M,8),(L,8)][k]? =some f) (W:World):
 (Instr.index 260 (.agg #[.int .u64 (T:Int),.int .i64 8,.int .u64 1,.int .i64 1,.int .u64 (P:Int),.int .i64 1,.int .u64 3,.int .i64 2,.int .u64 ((N:Int)+9),.int .i64 12,.int .u64 (E:Int),.int .i64 16,.int .u64 3,.int .i64 2,.int .u64 (V:Int),.int .i64 5,.int .u64 (Q:Int),.int .i64 1,.int .u64 (M:Int),.int .i64 8,.int .u64 (L:Int),.int .i64 8]) (.int .i64 (k:Int))).run Tryz.prog W
  = .ok (.agg #[.int .u64 (f.1:Int),.int .i64 (f.2:Int)]) W:=by
 match k,hf with
 |0,hf|1,hf|2,hf|3,hf|4,hf|5,hf|6,hf|7,hf|8,hf|9,hf|10,hf=>(injection hf with hf;rw[←hf];show(_:Result Value)=_;kernel_rfl)
 |_+11,hf=>simp at hf
theorem fl_le {T P N E V Q M L k:Nat} {f:Nat×Nat} (hf:[(T,8),(1,1),(P,1),(3,2),(N+9,12),(E,16),(3,2),(V,5),(Q,1),(M,8),(L,8)][k]? =some f) (h:T<65536∧P<65536∧N<65000∧E<65536∧V<65536∧Q<65536∧M<65536∧L<65536):f.1<65536∧f.2≤16:=by
 match k,hf with
 |0,hf|1,hf|2,hf|3,hf|4,hf|5,hf|6,hf|7,hf|8,hf|9,hf|10,hf=>injection hf with hf;subst hf;dsimp only;omega
 |_+11,hf=>simp at hf
theorem fbits_snoc {F:List (Nat×Nat)} {k:Nat} {f:Nat×Nat} (h:F[k]? =some f):fbits (F.take (k+1))=fbits (F.take k)++bitsOf f.1 f.2:=by rw[List.take_add_one,h];simp[fbits]
theorem fbits_len {F:List (Nat×Nat)} (h: ∀f∈F,f.2≤16):(fbits F).length≤16*F.length:=by
 induction F with
 |nil=>simp[fbits]
 |cons f t ih=>
  have h1:=h f (List.mem_cons_self ..);have h2:=ih (fun x hx=>h x (List.mem_cons_of_mem _ hx));simp only[fbits,List.flatMap_cons,List.length_append,bitsOf_len,List.length_cons]at h2 ⊢;omega
set_option maxHeartbeats 1600000 in
theorem enc_ok (s:Sc) (w:World) (h:s.ok) (hb: ¬4084<s.body.size):Calls Tryz.prog 123 #[.agg s.vals] w fun e w'=>e= .returned (.tuple #[.string (bytesS s),.int .i64 0])∧Below w.heap.size w w':=by
 have k1:=check_any s;rw[chk_ok h hb]at k1;have hfr:=front_bits s h hb;have hX:bytesS s=str (sealL (frontL s++bl s.body)):=rfl;have hfl:flds s=[(s.table.toNat,8),(1,1),(nb s.priv,1),(3,2),(s.body.size+9,12),(s.ext.toNat,16),(3,2),(s.version.toNat,5),(nb s.now,1),(s.number.toNat,8),(s.last.toNat,8)]:=rfl;have hB0:=bk1 w 235 s.vals;obtain⟨⟨a1,a2⟩,⟨b1,b2⟩,⟨c1,c2⟩,⟨d1,d2⟩,f1,f2⟩:=h;obtain⟨S,hS⟩: ∃S,bytesS s=S:=⟨_,rfl⟩;rw[hS]at hX ⊢;obtain⟨FR,hFR⟩: ∃FR,frontL s=FR:=⟨_,rfl⟩;rw[hFR]at hfr hX;obtain⟨FL,hFL⟩: ∃FL,flds s=FL:=⟨_,rfl⟩;rw[hFL]at hfr hfl;clear hS hFR hFL;obtain⟨t,p,e,v,n,m,l,b⟩:=s;unfold Sc.vals at k1 hB0 ⊢;dsimp only at*;obtain⟨t,rfl⟩: ∃x:Nat,t=x:=⟨t.toNat,by omega⟩;obtain⟨e,rfl⟩: ∃x:Nat,e=x:=⟨e.toNat,by omega⟩;obtain⟨v,rfl⟩: ∃x:Nat,v=x:=⟨v.toNat,by omega⟩;obtain⟨m,rfl⟩: ∃x:Nat,m=x:=⟨m.toNat,by omega⟩;obtain⟨l,rfl⟩: ∃x:Nat,l=x:=⟨l.toNat,by omega⟩;simp only[Int.toNat_natCast]at hfl;have kp:=fun V=>flag_nb p V;have kq:=fun V=>flag_nb n V;have hP:=nb_le p;have hQ:=nb_le n;obtain⟨P,hPe⟩: ∃P,nb p=P:=⟨_,rfl⟩;obtain⟨Q,hQe⟩: ∃Q,nb n=Q:=⟨_,rfl⟩;rw[hPe]at kp hP hfl;rw[hQe]at kq hQ hfl;have HI:=Lib.hid (idx_fl t P b.size e v Q m l);have HLE:=Lib.hid (fun k f hf=>fl_le (T:=t) (P:=P) (N:=b.size) (E:=e) (V:=v) (Q:=Q) (M:=m) (L:=l) (k:=k) (f:=f) hf ⟨by omega,by omega,by omega,by omega,by omega,by omega,by omega,by omega⟩);have HF:=Lib.hid hfr;have HX:=Lib.hid hX;have HFL:=Lib.hid hfl;have HB:=Lib.hid hB0;have hbz:b.size≤4084:=by omega
 clear hPe hQe hfr hX hfl hB0 a1 b1 c1 d1 f1 hb
 go_enter Tryz.func123,Tryz.ntmps123
 go_wp2_with fail
 (with_reducible refine(k1 _).mono ?_);rintro e1 W1 ⟨rfl,hb1⟩
 have HB1:=Lib.hid (HB.out.below hb1);have HB2:=Lib.hid (HB1.out.new 213 #[.slice none 0 0,.int .i64 0]);clear k1 HB hb1;have c0:=fun pX=>Blk.cell (blk_ext (HB2.out.nth 1 rfl) pX) 0 (v:= .int .i64 (t:Int)) rfl;have c1:=fun pX=>Blk.cell (blk_ext (HB2.out.nth 1 rfl) pX) 1 (v:= .bool p) rfl;have c2:=fun pX=>Blk.cell (blk_ext (HB2.out.nth 1 rfl) pX) 2 (v:= .int .i64 (e:Int)) rfl;have c3:=fun pX=>Blk.cell (blk_ext (HB2.out.nth 1 rfl) pX) 3 (v:= .int .i64 (v:Int)) rfl;have c4:=fun pX=>Blk.cell (blk_ext (HB2.out.nth 1 rfl) pX) 4 (v:= .bool n) rfl;have c5:=fun pX=>Blk.cell (blk_ext (HB2.out.nth 1 rfl) pX) 5 (v:= .int .i64 (m:Int)) rfl;have c6:=fun pX=>Blk.cell (blk_ext (HB2.out.nth 1 rfl) pX) 6 (v:= .int .i64 (l:Int)) rfl;have c7:=fun pX=>Blk.cell (blk_ext (HB2.out.nth 1 rfl) pX) 7 (v:= .string b) rfl
 go_wp2_with fail
 refine Go.Proofs.YtibjkhepedfpiaaGreatDoor.Q.region_ext (by kernel_rfl) (by kernel_rfl) ?_
 repeat (go_big_quiet_step ((first|(go_at_call 152;refine ext_call_same (kp _))|(go_at_call 152;refine ext_call_same (kq _)))))
 refine wpQuiet_nil ?_;rintro w9 ⟨pq,rfl⟩;have HB3:=Lib.hid (HB2.out.px pq);have hgw:=HB1.out.size;obtain⟨g,hg⟩: ∃g,W1.heap.size=g:=⟨_,rfl⟩;rw[hg]at HB3 hgw ⊢;obtain⟨W0,hW0⟩: ∃W0,ext (W1.alloc (.cells #[.slice none 0 0,.int .i64 0] 213)) pq=W0:=⟨_,rfl⟩;rw[hW0]at HB3 ⊢;have hg1:g+1≤W0.heap.size:=HB3.out.lt 0 rfl;have hwg:w.heap.size<g:=by have:=HB1.out.lt 0 rfl;rw[←hg];exact this
 have HO0:=Lib.hid (show OutV W0 g (g+1) (.slice none 0 0) (fbits (FL.take 0))from⟨HB3.out.nth 0 rfl,by rw[show fbits (FL.take 0)=[] by simp[fbits],show pk []=[]from rfl];exact World.ownsRow_nil _ _ _ _,by omega,hg1⟩);clear c0 c1 c2 c3 c4 c5 c6 c7 kp kq hW0 HB2 HB1 hg
 go_wp2_with fail
 go_loopw [51] (fun i wr=> ∃(k:Nat) (v':Value),k≤11∧i= .int .i64 k∧Hid (OutV wr g (g+1) v' (fbits (FL.take k))∧Grow g (.slice none 0 0) W0 v' wr)) (fun i _=>11-(intOf i).toNat)
 case atStart=>exact⟨0,_,by omega,rfl,Lib.hid ⟨HO0.out,Grow.refl _ _ _⟩⟩
 case round=>
  obtain⟨k,v',hk,rfl,hI⟩:=hrel;by_cases hk11:k<11
  ·have t1:decide ((k:Int)<11)=true:=by simp;omega
   obtain⟨f,hf⟩: ∃f,FL[k]? =some f:=⟨_,List.getElem?_eq_getElem (by rw[HFL.out];exact hk11)⟩;have HS:=Lib.hid (fbits_snoc hf)
   have hall: ∀x∈FL.take k,x.2≤16:=fun x hx=>by
    obtain⟨j,hj⟩:=List.getElem?_of_mem (List.mem_of_mem_take hx);rw[HFL.out]at hj;exact(HLE.out j x hj).2
   have hlen:=fbits_len hall;rw[HFL.out]at hf;have ix:=HI.out k f hf;obtain⟨l1,l2⟩:=HLE.out k f hf;obtain⟨x,y⟩:=f;dsimp only at ix l1 l2 HS;have hlk:=List.length_take_le k FL;have kp:=fun(o:Obj)=>put_any g (g+1) v' (fbits (FL.take k)) x y (wr.alloc o) (hI.out.1.other (World.grownBy_alloc wr o none) (by simp) (fun r e=>by cases e)) (by omega) (by omega) (by omega);have HG:=Lib.hid hI.out.2;clear hall hlen hf hI hlk
   go_wp2_with fail
   (with_reducible refine(kp _).mono ?_);rintro e1 W2 ⟨rfl,v2,hO2,hG2⟩
   have HI2:=Lib.hid (show OutV W2 g (g+1) v2 (fbits (FL.take (k+1)))∧Grow g (.slice none 0 0) W0 v2 W2 from⟨by rw[HS.out];exact hO2,(HG.out.other (World.grownBy_alloc wr _ none) (fun r e=>by cases e)).trans hG2⟩);clear kp hO2 hG2 ix HG HS
   go_wp2_with fail
   go_roundw
   case rel=>exact⟨k+1,v2,by omega,by go_num,HI2⟩
   case measure=>simp[intOf];omega
  ·obtain rfl:k=11:=by omega
   have t1:decide (((11:Nat):Int)<11)=false:=by decide
   rw[show FL.take 11=FL by rw[List.take_of_length_le (by rw[HFL.out];exact Nat.le_refl 11)]]at hI
   have hbx:Blk wr w.heap.size 235 #[.int .i64 (t:Int),.bool p,.int .i64 (e:Int),.int .i64 (v:Int),.bool n,.int .i64 (m:Int),.int .i64 (l:Int),.string b]:=
    (hI.out.2.block _ (by omega) (by omega) (by simp[Value.ownBlock])).trans (HB3.out.nth 1 rfl)
   have c7:=Blk.cell hbx 7 (v:= .string b) rfl;have hwr:=hI.out.1.bw;have hrow:=hI.out.1.row
   have hlF:(fbits FL).length≤176:=by
    have hx:=fbits_len (F:=FL) (fun x hx=>by
     obtain⟨j,hj⟩:=List.getElem?_of_mem hx;rw[HFL.out]at hj;exact(HLE.out j x hj).2)
    rw[show FL.length=11 by rw[HFL.out];rfl]at hx;exact hx
   have kt:=otext_one g (g+1) v' (fbits FL) b (wr.alloc (.cells #[.string b] 9)) wr.heap.size (by omega) (hI.out.1.other (World.grownBy_alloc wr _ none) (by simp) (fun r e=>by cases e)) (Blk.cell (Blk.new wr 9 #[.string b]) 0 rfl) (fun r e=>by have:=(hrow r e).2;omega) (by omega);have HG:=Lib.hid hI.out.2;clear hbx hrow hI HI HLE
   go_wp2_with fail
   (with_reducible refine(kt).mono ?_);rintro e1 W3 ⟨rfl,v3,hO3,hG3⟩
   have ks:=ostring_any g (g+1) v3 _ W3 hO3;rw[HF.out]at ks
   have hbe:Below w.heap.size w W3:=by
    have h1:=HB3.out.be;have h2:=(HG.out.other (World.grownBy_alloc wr (.cells #[.string b] 9) none) (fun r e=>by cases e)).trans hG3;exact h1.trans (h2.below (by omega) (fun r e=>by simp[Value.ownBlock]at e) h1.size)
   have HBE:=Lib.hid hbe
   have hsz:(str (FR++bl b)).size≤1099511627776:=by
    have hl8:=congrArg List.length HF.out;rw[pk_len,List.length_append,bitsL_len,bl_len]at hl8;rw[str_size,←hl8];omega
   have kl:=seal_any (str (FR++bl b)) W3 hsz;rw[bl_str,←HX.out]at kl;obtain⟨Z,hZ⟩: ∃Z,str (FR++bl b)=Z:=⟨_,rfl⟩;rw[hZ]at ks kl;clear kt hO3 hG3 hbe hsz hZ c7 hlF HG
   go_wp2_with fail
   (with_reducible refine(ks).mono ?_);rintro e1 W4 ⟨rfl,rfl⟩
   go_wp2_with fail
   (with_reducible refine(kl).mono ?_);rintro e1 W5 ⟨rfl,hb5⟩
   have hE:=HBE.out.trans (hb5.mono HBE.out.size)
   go_wp2_with fail
   go_ret2
   exact⟨rfl,hE⟩
end Go.Proofs.YtibjkhepedfpiaaGreatDoor.SeC
namespace Go.Proofs.YtibjkhepedfpiaaGreatDoor.SeD
end Go.Proofs.YtibjkhepedfpiaaGreatDoor.SeD
namespace Go.Proofs.YtibjkhepedfpiaaGreatDoor.SeE
open Go Go.RowKit Q Mem Rg Ap St BiP CrC CrD SeA SeC SeD
def encS (s:Sc):ByteArray:=if s.chk=0 then bytesS s else nob
theorem chk_zero {s:Sc} (h:s.chk=0):s.ok∧ ¬4084<s.body.size:=by
 unfold Sc.chk at h
 split at h
 ·rename_i hk
  split at h
  ·omega
  ·rename_i hb;exact⟨hk,hb⟩
 ·omega
theorem enc_any (s:Sc) (w:World):Calls Tryz.prog 123 #[.agg s.vals] w fun e w'=>e= .returned (.tuple #[.string (encS s),.int .i64 s.chk])∧Below w.heap.size w w':=by
 unfold encS;by_cases h:s.chk=0
 ·obtain⟨h1,h2⟩:=chk_zero h
  rw[if_pos h,h];exact enc_ok s w h1 h2
 ·rw[if_neg h]
  exact enc_bad s w h
end Go.Proofs.YtibjkhepedfpiaaGreatDoor.SeE
namespace Go.Proofs.YtibjkhepedfpiaaGreatDoor.SeG
open Go Go.RowKit Q Mem Rg Ap St BiP BiA BiG BiH
def nN (t:ByteArray):Nat:=at0 t 1%16*256+at0 t 2
def nBad (t:ByteArray):Prop:=(at0 t 1/16≠11∧at0 t 1/16≠15)∨nN t<9∨4093<nN t
instance (t:ByteArray):Decidable (nBad t):=by unfold nBad;infer_instance
def needE (t:ByteArray):Int:=if t.size<3 then 10 else if nBad t then 12 else 0
def needN (t:ByteArray):Nat:=if needE t=0 then nN t+3 else 0
set_option maxRecDepth 100000
set_option maxHeartbeats 800000 in
theorem rneed_any (t:ByteArray) (w:World):Calls Tryz.prog 101 #[.string t] w fun e w'=>e= .returned (.tuple #[.int .i64 (needN t:Nat),.int .i64 (needE t)])∧Below w.heap.size w w':=by
 by_cases h3:t.size<3
 ·have t1:decide ((t.size:Int)<3)=true:=by simp;omega
  have HE:=Lib.hid (show needE t=10∧needN t=0 by simp[needE,needN,h3]);clear h3
  go_enter Tryz.func101,Tryz.ntmps101
  go_wp2_with fail
  go_ret2
  exact⟨by rw[HE.out.1,HE.out.2];rfl,Below.refl _ _⟩
 ·have t1:decide ((t.size:Int)<3)=false:=by simp;omega
  have i1: ∀V:World,(Instr.index 9 (.string t) (.int .i64 1)).run Tryz.prog V= .ok (.int .u8 (at0 t 1:Int)) V:=fun V=>idx_at t 1 (by omega) V;have i2: ∀V:World,(Instr.index 9 (.string t) (.int .i64 2)).run Tryz.prog V= .ok (.int .u8 (at0 t 2:Int)) V:=fun V=>idx_at t 2 (by omega) V;have l1:=at0_lt t 1;have l2:=at0_lt t 2
  have hE:needE t=if((at0 t 1/16≠11∧at0 t 1/16≠15)∨at0 t 1%16*256+at0 t 2<9∨4093<at0 t 1%16*256+at0 t 2)then 12 else 0:=by
   unfold needE;rw[if_neg h3];rfl
  have hN:needN t=if needE t=0 then at0 t 1%16*256+at0 t 2+3 else 0:=rfl;obtain⟨a,ha⟩: ∃a,at0 t 1=a:=⟨_,rfl⟩;obtain⟨b,hb⟩: ∃b,at0 t 2=b:=⟨_,rfl⟩;rw[ha]at i1 l1 hE hN;rw[hb]at i2 l2 hE hN;have HE:=Lib.hid hE;have HN:=Lib.hid hN;have q1:IntKind.i64.wrap (a:Int)=(a:Int):=by rw[IntKind.wrap_i64];omega
  have q2:IntKind.i64.wrap (b:Int)=(b:Int):=by rw[IntKind.wrap_i64];omega
  have z1:(a:Int)≤255:=by omega
  have z2:(b:Int)≤255:=by omega
  have z3:(0:Int)≤(a:Int):=by omega
  have z4:(0:Int)≤(b:Int):=by omega
  clear h3 ha hb hE hN l1 l2
  go_enter Tryz.func101,Tryz.ntmps101
  go_wp2_with fail
  refine Go.Proofs.YtibjkhepedfpiaaGreatDoor.Q.region_ext (by kernel_rfl) (by kernel_rfl) ?_
  repeat (go_big_quiet_step (fail))
  refine wpQuiet_nil ?_;rintro w9 ⟨pq,rfl⟩;have HB:=Lib.hid (below_ext w pq)
  go_wp2_with fail
  all_goals
   go_ret2
   refine⟨?_,HB.out⟩;have hE:=HE.out;have hN:=HN.out
   first
    |(rw[if_pos (by omega)]at hE;rw[hE,if_neg (by decide)]at hN;rw[hN,hE];rfl)
    |(rw[if_neg (by omega)]at hE;rw[hE,if_pos rfl]at hN;rw[hN,hE];simp;done)
theorem wrap63 (n:Nat) (h:n<9223372036854775808):IntKind.i64.wrap (n:Int)=(n:Int):=by rw[IntKind.wrap_i64];omega
set_option maxHeartbeats 1600000 in
theorem need_any (t:ByteArray) (w:World) (hs:t.size≤1099511627776):Calls Tryz.prog 112 #[.string t] w fun e w'=>e= .returned (.tuple #[.int .i64 (needN t:Nat),.int .i64 (needE t)])∧Below w.heap.size w w':=by
 by_cases h3:t.size<3
 ·have t1:decide ((t.size:Int)<3)=true:=by simp;omega
  have HE:=Lib.hid (show needE t=10∧needN t=0 by simp[needE,needN,h3]);clear h3
  go_enter Tryz.func112,Tryz.ntmps112
  go_wp2_with fail
  go_ret2
  exact⟨by rw[HE.out.1,HE.out.2];rfl,Below.refl _ _⟩
 ·have t1:decide ((t.size:Int)<3)=false:=by simp;omega
  have l1:=at0_lt t 1;have l2:=at0_lt t 2
  have hE:needE t=if((at0 t 1/16≠11∧at0 t 1/16≠15)∨at0 t 1%16*256+at0 t 2<9∨4093<at0 t 1%16*256+at0 t 2)then 12 else 0:=by
   unfold needE;rw[if_neg h3];rfl
  have hN:needN t=if needE t=0 then at0 t 1%16*256+at0 t 2+3 else 0:=rfl;have hg1:gb t 8 1=at0 t 1/128:=by have:=gb_in t 1 0 1 (by omega);simp only[Nat.mul_one,Nat.add_zero]at this;rw[this];simp;omega
  have hg2:gb t 10 2=at0 t 1/16%4:=by have:=gb_in t 1 2 2 (by omega);simpa using this
  have hg3:gb t 12 12=at0 t 1%16*256+at0 t 2:=by
   have h1:=gb_in t 1 4 4 (by omega);have h2:=gb_byte t 2;rw[gb_split t 12 4 8];simp only[Nat.reduceMul,Nat.reduceAdd,Nat.reduceSub,Nat.reducePow,Nat.div_one]at h1 h2 ⊢;rw[h1,h2]
  have k0:=fun V=>read_any t V;have HB:=Lib.hid (bk1 w 203 (inC 0 t));have kg:=fun(W:World) (a n:Nat) (h:Bk w W [(w.heap.size,203,inC a t)]) h1 h2=>get_bk (n:=n) h (Nat.le_refl _) (by simp) hs h1 h2;have HK:=Lib.hid kg;obtain⟨S,hS⟩: ∃S,t.size=S:=⟨_,rfl⟩;have h24:24≤8*S:=by omega
  rw[hS]at HK;have HS:=Lib.hid hS;obtain⟨y,hy⟩: ∃y,at0 t 1/128=y:=⟨_,rfl⟩;obtain⟨z,hz⟩: ∃z,at0 t 1/16%4=z:=⟨_,rfl⟩;obtain⟨m,hm⟩: ∃m,at0 t 1%16*256+at0 t 2=m:=⟨_,rfl⟩;rw[hy]at hg1;rw[hz]at hg2;rw[hm]at hg3;have HG1:=Lib.hid hg1;have HG2:=Lib.hid hg2;have HG3:=Lib.hid hg3;have HY:=Lib.hid (And.intro hy l1);have HZ:=Lib.hid hz;have HM:=Lib.hid (show at0 t 1%16*256+at0 t 2=m∧m≤4095 from⟨hm,by omega⟩);have HE:=Lib.hid hE;have HN:=Lib.hid hN;clear kg h3 hE hN hy hz hm hg1 hg2 hg3 l1 l2
  go_enter Tryz.func112,Tryz.ntmps112
  go_wp2_with fail
  (with_reducible refine(k0 _).mono ?_);rintro e1 W0 ⟨rfl,rfl⟩
  have kg:=HK.out _ 0 8 HB.out (by omega) (by decide);rw[show((8:Nat):Int)=8 from rfl]at kg;clear k0
  go_wp2_with fail
  (with_reducible refine(kg).mono ?_);rintro e1 W1 ⟨rfl,hb1⟩
  have HB1:=Lib.hid hb1;have kg:=HK.out _ 8 1 HB1.out (by omega) (by decide);rw[show((1:Nat):Int)=1 from rfl,HG1.out]at kg;clear hb1
  go_wp2_with fail
  (with_reducible refine(kg).mono ?_);rintro e1 W2 ⟨rfl,hb1⟩
  have HB2:=Lib.hid hb1;have kg:=HK.out _ 9 1 HB2.out (by omega) (by decide);rw[show((1:Nat):Int)=1 from rfl]at kg;clear hb1 HB1
  go_wp2_with fail
  (with_reducible refine(kg).mono ?_);rintro e1 W3 ⟨rfl,hb1⟩
  have HB3:=Lib.hid hb1;clear hb1 HB2 kg;by_cases hy:y=1
  ·have t2:((y:Int)==1)=true:=by simp;omega
   have kg:=HK.out _ 10 2 HB3.out (by omega) (by decide);rw[show((2:Nat):Int)=2 from rfl,HG2.out]at kg;have HY1:=Lib.hid hy;clear hy
   go_wp2_with fail
   (with_reducible refine(kg).mono ?_);rintro e1 W4 ⟨rfl,hb1⟩
   have HB4:=Lib.hid hb1;have kg:=HK.out _ 12 12 HB4.out (by omega) (by decide);rw[show((12:Nat):Int)=12 from rfl,HG3.out]at kg;have qm:=wrap63 m (by have:=HM.out;omega);clear hb1 HB3
   go_wp2_with fail
   all_goals
    (with_reducible refine(kg).mono ?_);rintro e1 W5 ⟨rfl,hb1⟩
    have HBE:=Lib.hid hb1.be;have z0:(0:Int)≤(m:Int):=by omega
    have z1:(m:Int)≤4095:=by have:=HM.out;omega
    clear hb1
    go_wp2_with fail
   all_goals
    go_ret2
    refine⟨?_,HBE.out⟩;have hE:=HE.out;have hN:=HN.out;have y1:=HY.out;have y2:=HZ.out;have y3:=HM.out;have y4:=HY1.out
    first
     |(rw[if_pos (by omega)]at hE;rw[hE,if_neg (by decide)]at hN;rw[hN,hE];rfl)
     |(rw[if_neg (by omega)]at hE;rw[hE,if_pos rfl,y3.1]at hN;rw[hN,hE];simp;done)
  ·have t2:((y:Int)==1)=false:=by simp;omega
   have kg:=HK.out _ 10 12 HB3.out (by omega) (by decide);rw[show((12:Nat):Int)=12 from rfl]at kg;have HY1:=Lib.hid hy;clear hy
   go_wp2_with fail
   (with_reducible refine(kg).mono ?_);rintro e1 W5 ⟨rfl,hb1⟩
   have HBE:=Lib.hid hb1.be;clear hb1
   go_wp2_with fail
   go_ret2
   refine⟨?_,HBE.out⟩;have hE:=HE.out;have hN:=HN.out;have y1:=HY.out;have y4:=HY1.out;rw[if_pos (by omega)]at hE;rw[hE,if_neg (by decide)]at hN;rw[hN,hE];rfl
end Go.Proofs.YtibjkhepedfpiaaGreatDoor.SeG
namespace Go.Proofs.YtibjkhepedfpiaaGreatDoor.SeEq
open Go Go.RowKit Q Mem St SeA
theorem bytes_eq (a b:ByteArray):(a.toList==b.toList)=decide (a=b):=by
 rw[ByteArray.toList_eq,ByteArray.toList_eq];obtain⟨⟨x⟩⟩:=a;obtain⟨⟨y⟩⟩:=b;by_cases h:x=y<;>simp[h]
theorem tl_iff (a b:ByteArray):a.toList=b.toList↔a=b:=by
 have:=bytes_eq a b;by_cases h:a=b
 ·simp[h]
 ·simp[h]at this
  simp[h,this]
theorem isEmpty_iff (s:ByteArray):s.toList.isEmpty=decide (s.size=0):=by
 rw[ByteArray.toList_eq];obtain⟨⟨x⟩⟩:=s
 cases x<;>simp[ByteArray.size]
theorem sc_iff {a b:Sc}:a=b↔a.table=b.table∧a.priv=b.priv∧a.ext=b.ext∧a.version=b.version∧a.now=b.now∧a.number=b.number∧a.last=b.last∧a.body=b.body:=⟨fun h=>by subst h;simp,fun⟨h1,h2,h3,h4,h5,h6,h7,h8⟩=>by cases a;cases b;simp_all⟩
instance:DecidableEq Sc:=fun _ _=>decidable_of_iff _ sc_iff.symm
set_option maxRecDepth 100000
theorem eqTS (a b:Sc) (w:World):(Op.equalIn 10000 235 (.agg a.vals) (.agg b.vals)).run Tryz.prog w= .ok (decide (a=b)) w:=by
 unfold Sc.vals;have hS:Tryz.prog.underlying 235=some (.struct (Tryz.prog.fieldsOf 235)):=by kernel_rfl
 have hp:Tryz.prog.stoodInHeld 235=false:=by kernel_rfl
 rw[show(10000:Nat)=9999+1 from rfl,run_equalIn_agg w 9999 235 _ _ hS hp];simp only[Program.fieldsOf,Tryz.underlying235]
 go_simp
 simp only[sc_iff];by_cases h1:a.table=b.table<;>by_cases h2:a.priv=b.priv<;>by_cases h3:a.ext=b.ext<;>by_cases h4:a.version=b.version<;>by_cases h5:a.now=b.now<;>by_cases h6:a.number=b.number<;>by_cases h7:a.last=b.last<;>by_cases h8:a.body=b.body<;>simp[h1,h2,h3,h4,h5,h6,h7,h8,tl_iff]
end Go.Proofs.YtibjkhepedfpiaaGreatDoor.SeEq
namespace Go.Proofs.YtibjkhepedfpiaaGreatDoor.SeH
open Go Go.RowKit Q Mem Rg Ap St BiP BiA BiG BiH CrC CrD SeA SeC SeG SeEq
theorem seal_open (s:ByteArray) (h4:4≤s.size):(str (sealL (bl (s.extract 0 (s.size-4))))=s)↔sumL (bl s)=0#32:=by
 rw[ext_bl,List.drop_zero,Nat.sub_zero];have:=seal_only (bl s) (by rw[bl_len];exact h4);rw[bl_len]at this;constructor
 ·intro h
  refine this.2 ?_;have h':=congrArg bl h;rw[bl_str]at h';exact h'.symm
 ·intro h
  exact bl_inj (by rw[bl_str];exact(this.1 h).symm)
set_option maxRecDepth 100000
end Go.Proofs.YtibjkhepedfpiaaGreatDoor.SeH
namespace Go.Proofs.YtibjkhepedfpiaaGreatDoor.SeI
open Go Go.RowKit Q Mem Rg Ap St BiP BiA BiG BiH CrC CrD SeA SeC SeG SeEq SeH
def rdS (u:ByteArray):Sc:=⟨(at0 u 0:Nat),decide (at0 u 1/64%2=1),(at0 u 3*256+at0 u 4:Nat),(at0 u 5/2%32:Nat),decide (at0 u 5%2=1),(at0 u 6:Nat),(at0 u 7:Nat),u.extract 8 u.size⟩
def fBad (u:ByteArray):Prop:=at0 u 5/64≠3∨at0 u 7<at0 u 6
instance (u:ByteArray):Decidable (fBad u):=by unfold fBad;infer_instance
def decE (t:ByteArray):Int:=if needE t≠0 then needE t else if t.size<needN t then 10 else if needN t<t.size then 11 else if openE t≠0 then openE t else if fBad (openS t)then 12 else 0
def zeroS:Sc:=⟨0,false,0,0,false,0,0,nob⟩
def decS (t:ByteArray):Sc:=if decE t=0 then rdS (openS t)else zeroS
theorem dec_zero {t:ByteArray} {c:Int} (h:decE t=c) (hc:c≠0):decE t=c∧decS t=zeroS:=⟨h,by unfold decS;rw[if_neg (by rw[h];exact hc)]⟩
theorem need_le {t:ByteArray} (h:needE t=0):12≤needN t∧needN t≤4096:=by
 have:needN t=nN t+3:=by unfold needN;rw[if_pos h]
 rw[this];unfold needE at h
 split at h
 ·omega
 ·split at h
  ·omega
  ·rename_i hb;unfold nBad at hb;omega
theorem open_size {t:ByteArray} (h:openE t=0) (h8:12≤t.size):(openS t).size+4=t.size:=by
 unfold openS;rw[if_pos h,ByteArray.size_extract];omega
section
variable {P:Program}
set_option maxRecDepth 100000
theorem res_row {fn:Func} {p q:Tmp} {ty:TypeId} (h:fn.results= #[.cell p ty,.tmp q]) (tmps:Array Value) (w:World) (g:Nat) (t:TypeId) (cs:Array Value) (fr:Nat×Nat) (d:TypeDesc)
 (hp:tmps.getD p undef= .pointer (some ⟨g,0,none⟩)) (hg:w.heap[g]? =some (.cells cs t fr))
 (hu:P.underlying ty=some d) (hd:(match d with| .struct _| .array _ _=>true|_=>false)=true) (hi:(P.info? ty).map (·.size)=some cs.size):
 (results fn tmps).run P w= .ok (.tuple #[.agg cs,tmps.getD q undef]) w:=by
 have hp':tmps[p]?.getD undef= .pointer (some ⟨g,0,none⟩):=by simpa using hp
 simp[results,h,hp',asAddr,run_loadVar_row w g t ty cs fr d hg hu hd hi]
end
set_option maxRecDepth 100000
end Go.Proofs.YtibjkhepedfpiaaGreatDoor.SeI
namespace Go.Proofs.YtibjkhepedfpiaaGreatDoor.SeI2
open Go Go.RowKit Q Mem Rg Ap St BiP BiA BiG BiH CrC CrD SeA SeC SeG SeEq SeH SeI
set_option maxRecDepth 100000
end Go.Proofs.YtibjkhepedfpiaaGreatDoor.SeI2
namespace Go.Proofs.YtibjkhepedfpiaaGreatDoor.SeJ
open Go Go.RowKit Q Mem Rg Ap St BiP BiA BiG BiH CrC CrD SeA SeC SeG SeEq SeH SeI
theorem swap {w W:World} {x y:Nat×TypeId×Array Value} {L:List (Nat×TypeId×Array Value)} (h:Bk w W (x::y::L)):Bk w W (y::x::L):=⟨h.be,fun z hz=>h.all z (by simp at hz ⊢;rcases hz with h|h|h;(exact Or.inr (Or.inl h));(exact Or.inl h);(exact Or.inr (Or.inr h)))⟩
set_option maxRecDepth 100000
theorem dec_need (t:ByteArray) (w:World) (hs:t.size≤1099511627776) (h1: ¬needE t=0):Calls Tryz.prog 169 #[.string t] w fun e w'=>e= .returned (.tuple #[.agg (decS t).vals,.int .i64 (decE t)])∧Below w.heap.size w w':=by
 have HB:=Lib.hid (bk1 w 235 #[.int .i64 0,.bool false,.int .i64 0,.int .i64 0,.bool false,.int .i64 0,.int .i64 0,.string nob]);have kn:=fun V=>need_any t V hs;have hE4:decE t=needE t:=by unfold decE;rw[if_pos h1]
 obtain⟨c,hc⟩: ∃c,needE t=c:=⟨_,rfl⟩;rw[hc]at hE4 h1 kn;have HE:=Lib.hid (dec_zero hE4 h1);have t4:(c !=0)=true:=by simpa using h1
 clear h1 hE4 hc
 go_enter Tryz.func169,Tryz.ntmps169
 go_wp2_with fail
 (with_reducible refine(kn _).mono ?_);rintro e1 W1 ⟨rfl,hb1⟩
 have HB1:=Lib.hid (HB.out.below hb1);have HBE:=Lib.hid HB1.out.be;clear HB hb1 kn
 go_wp2_with (refine wpList_store_blk (g:=w.heap.size) (T:=235) (cs':= #[.int .i64 0,.bool false,.int .i64 0,.int .i64 0,.bool false,.int .i64 0,.int .i64 0,.string nob]) rfl 235 _ _ rfl rfl rfl (HB1.out.nth 0 rfl) (by kernel_rfl) (by kernel_rfl) (by kernel_rfl) (by kernel_rfl) ?_;intro W9 hW9 hg9 hz9)
 have hVE:=HBE.out.trans (below_of_only hg9 HBE.out.size (fun k hk=>by injection hk with hk;omega));exact bodyPost_ret (v:= .tuple #[.agg zeroS.vals,.int .i64 c]) (by refine res_row (fn:=Tryz.f169) (p:=2) (q:=3) rfl _ _ w.heap.size 235 _ (0,0) _ ?_ hW9 Tryz.underlying235 rfl (by kernel_rfl);rfl) rfl ⟨by rw[HE.out.1,HE.out.2],hVE⟩
theorem dec_len (t:ByteArray) (w:World) (hs:t.size≤1099511627776) (h1:needE t=0) (hq:t.size≠needN t):Calls Tryz.prog 169 #[.string t] w fun e w'=>e= .returned (.tuple #[.agg (decS t).vals,.int .i64 (decE t)])∧Below w.heap.size w w':=by
 have HB:=Lib.hid (bk1 w 235 #[.int .i64 0,.bool false,.int .i64 0,.int .i64 0,.bool false,.int .i64 0,.int .i64 0,.string nob]);have kn:=fun V=>need_any t V hs;rw[h1]at kn;obtain⟨N,hN⟩: ∃N,needN t=N:=⟨_,rfl⟩;rw[hN]at kn hq;by_cases h2:t.size<N
 ·have t2:decide (t.size<N)=true:=by simpa using h2
  have HE:=Lib.hid (dec_zero (t:=t) (c:=10) (by unfold decE;rw[if_neg (by simpa using h1),if_pos (by rw[hN];exact h2)]) (by decide));clear h1 h2 hN hq
  go_enter Tryz.func169,Tryz.ntmps169
  go_wp2_with fail
  (with_reducible refine(kn _).mono ?_);rintro e1 W1 ⟨rfl,hb1⟩
  have HB1:=Lib.hid (HB.out.below hb1);have HBE:=Lib.hid HB1.out.be;clear HB hb1 kn
  go_wp2_with (refine wpList_store_blk (g:=w.heap.size) (T:=235) (cs':= #[.int .i64 0,.bool false,.int .i64 0,.int .i64 0,.bool false,.int .i64 0,.int .i64 0,.string nob]) rfl 235 _ _ rfl rfl rfl (HB1.out.nth 0 rfl) (by kernel_rfl) (by kernel_rfl) (by kernel_rfl) (by kernel_rfl) ?_;intro W9 hW9 hg9 hz9)
  have hVE:=HBE.out.trans (below_of_only hg9 HBE.out.size (fun k hk=>by injection hk with hk;omega));exact bodyPost_ret (v:= .tuple #[.agg zeroS.vals,.int .i64 10]) (by refine res_row (fn:=Tryz.f169) (p:=2) (q:=3) rfl _ _ w.heap.size 235 _ (0,0) _ ?_ hW9 Tryz.underlying235 rfl (by kernel_rfl);rfl) rfl ⟨by rw[HE.out.1,HE.out.2],hVE⟩
 ·have h3:N<t.size:=by omega
  have t2:decide (t.size<N)=false:=by simpa using h2
  have t3:decide (N<t.size)=true:=by simpa using h3
  have HE:=Lib.hid (dec_zero (t:=t) (c:=11) (by unfold decE;rw[if_neg (by simpa using h1),if_neg (by rw[hN];exact h2),if_pos (by rw[hN];exact h3)]) (by decide));clear h1 h2 h3 hN hq
  go_enter Tryz.func169,Tryz.ntmps169
  go_wp2_with fail
  (with_reducible refine(kn _).mono ?_);rintro e1 W1 ⟨rfl,hb1⟩
  have HB1:=Lib.hid (HB.out.below hb1);have HBE:=Lib.hid HB1.out.be;clear HB hb1 kn
  go_wp2_with (refine wpList_store_blk (g:=w.heap.size) (T:=235) (cs':= #[.int .i64 0,.bool false,.int .i64 0,.int .i64 0,.bool false,.int .i64 0,.int .i64 0,.string nob]) rfl 235 _ _ rfl rfl rfl (HB1.out.nth 0 rfl) (by kernel_rfl) (by kernel_rfl) (by kernel_rfl) (by kernel_rfl) ?_;intro W9 hW9 hg9 hz9)
  have hVE:=HBE.out.trans (below_of_only hg9 HBE.out.size (fun k hk=>by injection hk with hk;omega));exact bodyPost_ret (v:= .tuple #[.agg zeroS.vals,.int .i64 11]) (by refine res_row (fn:=Tryz.f169) (p:=2) (q:=3) rfl _ _ w.heap.size 235 _ (0,0) _ ?_ hW9 Tryz.underlying235 rfl (by kernel_rfl);rfl) rfl ⟨by rw[HE.out.1,HE.out.2],hVE⟩
theorem dec_open (t:ByteArray) (w:World) (hs:t.size≤1099511627776) (h1:needE t=0) (hq:t.size=needN t) (h4: ¬openE t=0):Calls Tryz.prog 169 #[.string t] w fun e w'=>e= .returned (.tuple #[.agg (decS t).vals,.int .i64 (decE t)])∧Below w.heap.size w w':=by
 have HB:=Lib.hid (bk1 w 235 #[.int .i64 0,.bool false,.int .i64 0,.int .i64 0,.bool false,.int .i64 0,.int .i64 0,.string nob]);have kn:=fun V=>need_any t V hs;rw[h1]at kn;obtain⟨N,hN⟩: ∃N,needN t=N:=⟨_,rfl⟩;rw[hN]at kn hq;have ko:=fun V=>open_any t V hs;have hE4:decE t=openE t:=by unfold decE;rw[if_neg (by simpa using h1),if_neg (by rw[hN];omega),if_neg (by rw[hN];omega),if_pos h4]
 obtain⟨c,hc⟩: ∃c,openE t=c:=⟨_,rfl⟩;rw[hc]at hE4 h4 ko;have HE:=Lib.hid (dec_zero hE4 h4);have t4:(c !=0)=true:=by simpa using h4
 have t2:decide (t.size<N)=false:=by simp;omega
 have t3:decide (N<t.size)=false:=by simp;omega
 clear h1 h4 hN hE4 hc hq
 go_enter Tryz.func169,Tryz.ntmps169
 go_wp2_with fail
 (with_reducible refine(kn _).mono ?_);rintro e1 W1 ⟨rfl,hb1⟩
 have HB1:=Lib.hid (HB.out.below hb1);clear HB hb1 kn
 go_wp2_with fail
 (with_reducible refine(ko _).mono ?_);rintro e1 W2 ⟨rfl,hb1⟩
 have HB2:=Lib.hid (HB1.out.below hb1);have HBE:=Lib.hid HB2.out.be;clear HB1 hb1 ko
 go_wp2_with (refine wpList_store_blk (g:=w.heap.size) (T:=235) (cs':= #[.int .i64 0,.bool false,.int .i64 0,.int .i64 0,.bool false,.int .i64 0,.int .i64 0,.string nob]) rfl 235 _ _ rfl rfl rfl (HB2.out.nth 0 rfl) (by kernel_rfl) (by kernel_rfl) (by kernel_rfl) (by kernel_rfl) ?_;intro W9 hW9 hg9 hz9)
 have hVE:=HBE.out.trans (below_of_only hg9 HBE.out.size (fun k hk=>by injection hk with hk;omega));exact bodyPost_ret (v:= .tuple #[.agg zeroS.vals,.int .i64 c]) (by refine res_row (fn:=Tryz.f169) (p:=2) (q:=3) rfl _ _ w.heap.size 235 _ (0,0) _ ?_ hW9 Tryz.underlying235 rfl (by kernel_rfl);rfl) rfl ⟨by rw[HE.out.1,HE.out.2],hVE⟩
end Go.Proofs.YtibjkhepedfpiaaGreatDoor.SeJ
namespace Go.Proofs.YtibjkhepedfpiaaGreatDoor.SeK
open Go Go.RowKit Q Mem Rg Ap St BiP BiA BiG BiH CrC CrD SeA SeC SeG SeEq SeH SeI SeJ
theorem fields (u:ByteArray):gb u 0 8=at0 u 0∧gb u 9 1=at0 u 1/64%2∧gb u 24 16=at0 u 3*256+at0 u 4∧gb u 40 2=at0 u 5/64∧gb u 42 5=at0 u 5/2%32∧gb u 47 1=at0 u 5%2∧gb u 48 8=at0 u 6∧gb u 56 8=at0 u 7:=by
 have l5:=at0_lt u 5;refine⟨gb_byte u 0,?_,?_,?_,?_,?_,gb_byte u 6,gb_byte u 7⟩
 ·have:=gb_in u 1 1 1 (by omega);simpa using this
 ·have h:=gb_split u 24 8 8
  have h1:=gb_byte u 3;have h2:=gb_byte u 4;simp only[Nat.reduceMul,Nat.reduceAdd,Nat.reducePow]at h h1 h2;rw[h,h1,h2]
 ·have:=gb_in u 5 0 2 (by omega);simp at this;rw[this];omega
 ·have:=gb_in u 5 2 5 (by omega);simpa using this
 ·have:=gb_in u 5 7 1 (by omega);simpa using this
set_option maxRecDepth 100000
set_option maxHeartbeats 3200000 in
theorem dec_ok (t:ByteArray) (w:World) (hs:t.size≤1099511627776) (h1:needE t=0) (hq:t.size=needN t) (h4:openE t=0):Calls Tryz.prog 169 #[.string t] w fun e w'=>e= .returned (.tuple #[.agg (decS t).vals,.int .i64 (decE t)])∧Below w.heap.size w w':=by
 have HB:=Lib.hid (bk1 w 235 #[.int .i64 0,.bool false,.int .i64 0,.int .i64 0,.bool false,.int .i64 0,.int .i64 0,.string nob]);have kn:=fun V=>need_any t V hs;obtain⟨g1,g2⟩:=need_le h1;rw[h1]at kn;obtain⟨N,hN⟩: ∃N,needN t=N:=⟨_,rfl⟩;rw[hN]at kn hq g1 g2;have ko:=fun V=>open_any t V hs;rw[h4]at ko;have hu:=open_size h4 (by omega);have hE5:decE t=if fBad (openS t)then 12 else 0:=by unfold decE;rw[if_neg (by simpa using h1),if_neg (by rw[hN];omega),if_neg (by rw[hN];omega),if_neg (by simpa using h4)]
 have hS5:decS t=if decE t=0 then rdS (openS t)else zeroS:=rfl;obtain⟨u,hue⟩: ∃u,openS t=u:=⟨_,rfl⟩;rw[hue]at ko hu hE5 hS5;have t2:decide (t.size<N)=false:=by simp;omega
 have t3:decide (N<t.size)=false:=by simp;omega
 have hu8:8≤u.size:=by omega
 have hu9:u.size≤4092:=by omega
 have hus:u.size≤1099511627776:=by omega
 obtain⟨f0,f1,f2,f3,f4,f5,f6,f7⟩:=fields u;have hR:rdS u=⟨(at0 u 0:Nat),decide (at0 u 1/64%2=1),(at0 u 3*256+at0 u 4:Nat),(at0 u 5/2%32:Nat),decide (at0 u 5%2=1),(at0 u 6:Nat),(at0 u 7:Nat),u.extract 8 u.size⟩:=rfl;have hF:fBad u↔(at0 u 5/64≠3∨at0 u 7<at0 u 6):=Iff.rfl;have l0:=at0_lt u 0;have l3:=at0_lt u 3;have l4:=at0_lt u 4;have l6:=at0_lt u 6;have l7:=at0_lt u 7;have m2:at0 u 3*256+at0 u 4≤65535:=by omega
 have m4:at0 u 5/2%32≤31:=by omega
 obtain⟨a,ea⟩: ∃x,at0 u 0=x:=⟨_,rfl⟩;obtain⟨p,ep⟩: ∃x,at0 u 1/64%2=x:=⟨_,rfl⟩;obtain⟨e,ee⟩: ∃x,at0 u 3*256+at0 u 4=x:=⟨_,rfl⟩;obtain⟨r,er⟩: ∃x,at0 u 5/64=x:=⟨_,rfl⟩;obtain⟨v,ev⟩: ∃x,at0 u 5/2%32=x:=⟨_,rfl⟩;obtain⟨q,eq⟩: ∃x,at0 u 5%2=x:=⟨_,rfl⟩;obtain⟨m,em⟩: ∃x,at0 u 6=x:=⟨_,rfl⟩;obtain⟨l,el⟩: ∃x,at0 u 7=x:=⟨_,rfl⟩;rw[ea]at f0 hR l0;rw[ep]at f1 hR;rw[ee]at f2 hR m2;rw[er]at f3 hF;rw[ev]at f4 hR m4;rw[eq]at f5 hR;rw[em]at f6 hR hF l6;rw[el]at f7 hR hF l7;have F0:=Lib.hid f0;have F1:=Lib.hid f1;have F2:=Lib.hid f2;have F3:=Lib.hid f3;have F4:=Lib.hid f4;have F5:=Lib.hid f5;have F6:=Lib.hid f6;have F7:=Lib.hid f7;have q0:=wrap63 a (by omega);have q2:=wrap63 e (by omega);have q4:=wrap63 v (by omega);have q6:=wrap63 m (by omega);have q7:=wrap63 l (by omega);have hb1:((p:Int)==1)=decide (p=1):=by by_cases hx:p=1<;>simp[hx]<;>omega
 have hb2:((q:Int)==1)=decide (q=1):=by by_cases hx:q=1<;>simp[hx]<;>omega
 obtain⟨b1,eb1⟩: ∃x,decide (p=1)=x:=⟨_,rfl⟩;obtain⟨b2,eb2⟩: ∃x,decide (q=1)=x:=⟨_,rfl⟩;rw[eb1]at hb1 hR;rw[eb2]at hb2 hR
 have hchk:Sc.chk ⟨(a:Int),b1,(e:Int),(v:Int),b2,(m:Int),(l:Int),u.extract 8 u.size⟩=if l<m then 15 else 0:=by
  by_cases hlm:l<m
  ·rw[if_pos hlm];exact chk_no (by unfold Sc.ok;dsimp only;omega)
  ·rw[if_neg hlm];exact chk_ok (by unfold Sc.ok;dsimp only;omega) (by dsimp only;rw[ByteArray.size_extract];omega)
 have kc:=fun V=>check_any ⟨(a:Int),b1,(e:Int),(v:Int),b2,(m:Int),(l:Int),u.extract 8 u.size⟩ V;rw[hchk]at kc;unfold Sc.vals at kc;dsimp only at kc;have HR:=Lib.hid hR;have HF:=Lib.hid hF;have HE5:=Lib.hid hE5;have HS5:=Lib.hid hS5;have kg:=fun(W:World) (g a n:Nat) (L:List (Nat×TypeId×Array Value)) (h:Bk w W ((g,203,inC a u)::L)) hg hL h1 h2=>get_bk (n:=n) h hg hL hus h1 h2;have HK:=Lib.hid kg;have HU:=Lib.hid hus;have k0:=fun V=>read_any u V;clear kg h1 h4 hN hue hu hE5 hS5 hR hF ea ep ee er ev eq em el f0 f1 f2 f3 f4 f5 f6 f7 l0 l3 l4 l6 l7 m2 m4 eb1 eb2 g1 g2 hchk hq hus
 go_enter Tryz.func169,Tryz.ntmps169
 go_wp2_with fail
 (with_reducible refine(kn _).mono ?_);rintro e1 W1 ⟨rfl,hb⟩
 have HB1:=Lib.hid (HB.out.below hb);clear HB hb kn
 go_wp2_with fail
 (with_reducible refine(ko _).mono ?_);rintro e1 W2 ⟨rfl,hb⟩
 have HB2:=Lib.hid (HB1.out.below hb);clear HB1 hb ko t2 t3
 go_wp2_with fail
 (with_reducible refine(k0 _).mono ?_);rintro e1 W3 ⟨rfl,rfl⟩
 have HB3:=Lib.hid (HB2.out.new 203 (inC 0 u));have hgw:w.heap.size<W2.heap.size:=HB2.out.lt 0 rfl;obtain⟨g,hg⟩: ∃g,W2.heap.size=g:=⟨_,rfl⟩;rw[hg]at HB3 hgw ⊢;obtain⟨W3,hW3⟩: ∃W3,W2.alloc (.cells (inC 0 u) 203)=W3:=⟨_,rfl⟩;rw[hW3]at HB3 ⊢;have kg:=HK.out W3 g 0 8 _ HB3.out (by omega) (by simp;omega) (by omega) (by decide);rw[show((8:Nat):Int)=8 from rfl,F0.out]at kg;clear k0 hg hW3 HB2
 go_wp2_with fail
 (with_reducible refine(kg).mono ?_);rintro e1 W4 ⟨rfl,hb⟩
 have HB4:=Lib.hid hb;clear hb HB3 kg
 go_wp2_with fail
 have HS0:=Lib.hid (swap (HB4.out.new 235 #[.int .i64 (a:Int),.bool false,.int .i64 0,.int .i64 0,.bool false,.int .i64 0,.int .i64 0,.string nob]));have hSg:g<W4.heap.size:=HB4.out.lt 0 rfl;obtain⟨S,hS⟩: ∃S,W4.heap.size=S:=⟨_,rfl⟩;rw[hS]at HS0 hSg ⊢;obtain⟨W5,hW5⟩: ∃W5,W4.alloc (.cells #[.int .i64 (a:Int),.bool false,.int .i64 0,.int .i64 0,.bool false,.int .i64 0,.int .i64 0,.string nob] 235)=W5:=⟨_,rfl⟩;rw[hW5]at HS0 ⊢
 have hL: ∀(c c':Array Value),∀x∈[(S,235,c),(w.heap.size,235,c')],x.1≠g:=fun c c' x hx=>by
  rcases List.mem_cons.1 hx with rfl|hx
  ·show S≠g;omega
  ·rcases List.mem_cons.1 hx with rfl|hx
   ·show w.heap.size≠g;omega
   ·cases hx
 have HL:=Lib.hid hL;clear hS hW5 HB4 hL;have kg:=HK.out _ g 8 1 _ HS0.out (by omega) (HL.out _ _) (by omega) (by decide);rw[show((1:Nat):Int)=1 from rfl]at kg
 (with_reducible refine(kg).mono ?_);rintro e1 W6 ⟨rfl,hb⟩
 have HS6:=Lib.hid hb;clear hb kg HS0;have kg:=HK.out _ g 9 1 _ HS6.out (by omega) (HL.out _ _) (by omega) (by decide);rw[show((1:Nat):Int)=1 from rfl,F1.out]at kg
 go_wp2_with fail
 (with_reducible refine(kg).mono ?_);rintro e1 W7 ⟨rfl,hb⟩
 have HS7:=Lib.hid hb;clear hb kg HS6;have z1:=Blk.cell (HS7.out.nth 1 rfl) 1 (v:= .bool false) rfl;have zf1:=Blk.frozen (HS7.out.nth 1 rfl) 1;have HT7:=Lib.hid (show Bk w (W7.setCell ⟨S,1,none⟩ (.bool b1)) [(g,203,inC 10 u),(S,235,#[.int .i64 (a:Int),.bool b1,.int .i64 0,.int .i64 0,.bool false,.int .i64 0,.int .i64 0,.string nob]),(w.heap.size,235,#[.int .i64 0,.bool false,.int .i64 0,.int .i64 0,.bool false,.int .i64 0,.int .i64 0,.string nob])]from bk_put HS7.out (by omega) (by omega) (by omega) 1 (.bool b1));clear HS7;have kg:=HK.out _ g 10 14 _ HT7.out (by omega) (HL.out _ _) (by omega) (by decide);rw[show((14:Nat):Int)=14 from rfl]at kg
 go_wp2_with fail
 (with_reducible refine(kg).mono ?_);rintro e1 W8 ⟨rfl,hb⟩
 have HS8:=Lib.hid hb;clear hb kg HT7;have kg:=HK.out _ g 24 16 _ HS8.out (by omega) (HL.out _ _) (by omega) (by decide);rw[show((16:Nat):Int)=16 from rfl,F2.out]at kg
 go_wp2_with fail
 (with_reducible refine(kg).mono ?_);rintro e1 W9 ⟨rfl,hb⟩
 have HS9:=Lib.hid hb;clear hb kg HS8;have z2:=Blk.cell (HS9.out.nth 1 rfl) 2 (v:= .int .i64 0) rfl;have zf2:=Blk.frozen (HS9.out.nth 1 rfl) 2;have HT9:=Lib.hid (show Bk w (W9.setCell ⟨S,2,none⟩ (.int .i64 (e:Int))) [(g,203,inC 40 u),(S,235,#[.int .i64 (a:Int),.bool b1,.int .i64 (e:Int),.int .i64 0,.bool false,.int .i64 0,.int .i64 0,.string nob]),(w.heap.size,235,#[.int .i64 0,.bool false,.int .i64 0,.int .i64 0,.bool false,.int .i64 0,.int .i64 0,.string nob])]from bk_put HS9.out (by omega) (by omega) (by omega) 2 (.int .i64 (e:Int)));clear HS9;have kg:=HK.out _ g 40 2 _ HT9.out (by omega) (HL.out _ _) (by omega) (by decide);rw[show((2:Nat):Int)=2 from rfl,F3.out]at kg
 go_wp2_with fail
 (with_reducible refine(kg).mono ?_);rintro e1 W10 ⟨rfl,hb⟩
 have HS10:=Lib.hid hb;clear hb kg HT9;have kg:=HK.out _ g 42 5 _ HS10.out (by omega) (HL.out _ _) (by omega) (by decide);rw[show((5:Nat):Int)=5 from rfl,F4.out]at kg
 go_wp2_with fail
 (with_reducible refine(kg).mono ?_);rintro e1 W11 ⟨rfl,hb⟩
 have HS11:=Lib.hid hb;clear hb kg HS10;have z3:=Blk.cell (HS11.out.nth 1 rfl) 3 (v:= .int .i64 0) rfl;have zf3:=Blk.frozen (HS11.out.nth 1 rfl) 3;have HT11:=Lib.hid (show Bk w (W11.setCell ⟨S,3,none⟩ (.int .i64 (v:Int))) [(g,203,inC 47 u),(S,235,#[.int .i64 (a:Int),.bool b1,.int .i64 (e:Int),.int .i64 (v:Int),.bool false,.int .i64 0,.int .i64 0,.string nob]),(w.heap.size,235,#[.int .i64 0,.bool false,.int .i64 0,.int .i64 0,.bool false,.int .i64 0,.int .i64 0,.string nob])]from bk_put HS11.out (by omega) (by omega) (by omega) 3 (.int .i64 (v:Int)));clear HS11;have kg:=HK.out _ g 47 1 _ HT11.out (by omega) (HL.out _ _) (by omega) (by decide);rw[show((1:Nat):Int)=1 from rfl,F5.out]at kg
 go_wp2_with fail
 (with_reducible refine(kg).mono ?_);rintro e1 W12 ⟨rfl,hb⟩
 have HS12:=Lib.hid hb;clear hb kg HT11;have z4:=Blk.cell (HS12.out.nth 1 rfl) 4 (v:= .bool false) rfl;have zf4:=Blk.frozen (HS12.out.nth 1 rfl) 4;have HT12:=Lib.hid (show Bk w (W12.setCell ⟨S,4,none⟩ (.bool b2)) [(g,203,inC 48 u),(S,235,#[.int .i64 (a:Int),.bool b1,.int .i64 (e:Int),.int .i64 (v:Int),.bool b2,.int .i64 0,.int .i64 0,.string nob]),(w.heap.size,235,#[.int .i64 0,.bool false,.int .i64 0,.int .i64 0,.bool false,.int .i64 0,.int .i64 0,.string nob])]from bk_put HS12.out (by omega) (by omega) (by omega) 4 (.bool b2));clear HS12;have kg:=HK.out _ g 48 8 _ HT12.out (by omega) (HL.out _ _) (by omega) (by decide);rw[show((8:Nat):Int)=8 from rfl,F6.out]at kg
 go_wp2_with fail
 (with_reducible refine(kg).mono ?_);rintro e1 W13 ⟨rfl,hb⟩
 have HS13:=Lib.hid hb;clear hb kg HT12;have z5:=Blk.cell (HS13.out.nth 1 rfl) 5 (v:= .int .i64 0) rfl;have zf5:=Blk.frozen (HS13.out.nth 1 rfl) 5;have HT13:=Lib.hid (show Bk w (W13.setCell ⟨S,5,none⟩ (.int .i64 (m:Int))) [(g,203,inC 56 u),(S,235,#[.int .i64 (a:Int),.bool b1,.int .i64 (e:Int),.int .i64 (v:Int),.bool b2,.int .i64 (m:Int),.int .i64 0,.string nob]),(w.heap.size,235,#[.int .i64 0,.bool false,.int .i64 0,.int .i64 0,.bool false,.int .i64 0,.int .i64 0,.string nob])]from bk_put HS13.out (by omega) (by omega) (by omega) 5 (.int .i64 (m:Int)));clear HS13;have kg:=HK.out _ g 56 8 _ HT13.out (by omega) (HL.out _ _) (by omega) (by decide);rw[show((8:Nat):Int)=8 from rfl,F7.out]at kg
 go_wp2_with fail
 (with_reducible refine(kg).mono ?_);rintro e1 W14 ⟨rfl,hb⟩
 have HS14:=Lib.hid hb;clear hb kg HT13;have z6:=Blk.cell (HS14.out.nth 1 rfl) 6 (v:= .int .i64 0) rfl;have zf6:=Blk.frozen (HS14.out.nth 1 rfl) 6;have HT14:=Lib.hid (show Bk w (W14.setCell ⟨S,6,none⟩ (.int .i64 (l:Int))) [(g,203,inC 64 u),(S,235,#[.int .i64 (a:Int),.bool b1,.int .i64 (e:Int),.int .i64 (v:Int),.bool b2,.int .i64 (m:Int),.int .i64 (l:Int),.string nob]),(w.heap.size,235,#[.int .i64 0,.bool false,.int .i64 0,.int .i64 0,.bool false,.int .i64 0,.int .i64 0,.string nob])]from bk_put HS14.out (by omega) (by omega) (by omega) 6 (.int .i64 (l:Int)));clear HS14;obtain⟨V,hV⟩: ∃V,W14.setCell ⟨S,6,none⟩ (.int .i64 (l:Int))=V:=⟨_,rfl⟩;obtain⟨M,hM⟩: ∃M,u.size=8+M:=⟨u.size-8,by omega⟩;obtain⟨LN,hLN⟩: ∃LN,8*u.size-64=LN:=⟨_,rfl⟩;have kl:=fun(W:World) (h:Blk W g 203 (inC 64 u))=>left_any g 64 u W h HU.out (by omega);rw[hLN]at kl;have kt:=fun(W:World) (h:Blk W g 203 (inC (8*8) u))=>itext_ok g 8 M u W h HU.out (by omega);have hME:(M:Int)=(LN:Int)/8:=by omega
 have HX:=Lib.hid (show u.extract 8 (8+M)=u.extract 8 u.size by rw[hM]);rw[hME,HX.out]at kt;obtain⟨X,hX⟩: ∃X,u.extract 8 u.size=X:=⟨_,rfl⟩;rw[hX]at kt kc HR;have kl1:=kl _ (HT14.out.nth 0 rfl);have kt1:=kt _ (HT14.out.nth 0 rfl);have zl:(LN:Int)≤40000:=by omega
 have zl0:(0:Int)≤(LN:Int):=by omega
 clear hV hM hLN hME hX kl kt
 go_wp2_with fail
 (with_reducible refine(kl1).mono ?_);rintro e1 W15 ⟨rfl,rfl⟩
 clear kl1
 go_wp2_with fail
 (with_reducible refine(kt1).mono ?_);rintro e1 W16 ⟨rfl,hg16,hb16⟩
 have HS16:=Lib.hid (show Bk w W16 [(g,203,inC (8*(8+M)) u),(S,235,#[.int .i64 (a:Int),.bool b1,.int .i64 (e:Int),.int .i64 (v:Int),.bool b2,.int .i64 (m:Int),.int .i64 (l:Int),.string nob]),(w.heap.size,235,#[.int .i64 0,.bool false,.int .i64 0,.int .i64 0,.bool false,.int .i64 0,.int .i64 0,.string nob])]from⟨HT14.out.be.trans (below_of_only hb16 HT14.out.size (fun k hk=>by injection hk with hk;omega)),fun x hx=>by
  rcases List.mem_cons.1 hx with rfl|hx
  ·exact hg16
  ·exact Blk.grown (HT14.out.all x (List.mem_cons_of_mem _ hx)) hb16 (by simpa using HL.out _ _ x hx)⟩)
 have z7:=Blk.cell (HS16.out.nth 1 rfl) 7 (v:= .string nob) rfl;have zf7:=Blk.frozen (HS16.out.nth 1 rfl) 7;have HT16:=Lib.hid (show Bk w (W16.setCell ⟨S,7,none⟩ (.string X)) [(g,203,inC (8*(8+M)) u),(S,235,#[.int .i64 (a:Int),.bool b1,.int .i64 (e:Int),.int .i64 (v:Int),.bool b2,.int .i64 (m:Int),.int .i64 (l:Int),.string X]),(w.heap.size,235,#[.int .i64 0,.bool false,.int .i64 0,.int .i64 0,.bool false,.int .i64 0,.int .i64 0,.string nob])]from bk_put HS16.out (by omega) (by omega) (by omega) 7 (.string X));have c0:=Blk.cell (HT16.out.nth 1 rfl) 0 (v:= .int .i64 (a:Int)) rfl;have c1:=Blk.cell (HT16.out.nth 1 rfl) 1 (v:= .bool b1) rfl;have c2:=Blk.cell (HT16.out.nth 1 rfl) 2 (v:= .int .i64 (e:Int)) rfl;have c3:=Blk.cell (HT16.out.nth 1 rfl) 3 (v:= .int .i64 (v:Int)) rfl;have c4:=Blk.cell (HT16.out.nth 1 rfl) 4 (v:= .bool b2) rfl;have c5:=Blk.cell (HT16.out.nth 1 rfl) 5 (v:= .int .i64 (m:Int)) rfl;have c6:=Blk.cell (HT16.out.nth 1 rfl) 6 (v:= .int .i64 (l:Int)) rfl;have c7:=Blk.cell (HT16.out.nth 1 rfl) 7 (v:= .string X) rfl;have HBE0:=Lib.hid HT16.out.be;clear kt1 hg16 hb16 HT14 HS16;by_cases hr3:r=3
 ·have t5:((r:Int)==3)=true:=by simp;omega
  by_cases hlm:l<m
  ·have HE:=Lib.hid (dec_zero (t:=t) (c:=12) (by rw[HE5.out,if_pos (HF.out.2 (Or.inr hlm))]) (by decide))
   rw[if_pos hlm]at kc;clear hr3 hlm
   go_wp2_with fail
   (with_reducible refine(kc _).mono ?_);rintro e1 W17 ⟨rfl,hb⟩
   have HB17:=Lib.hid (HT16.out.below hb);have HBE:=Lib.hid HB17.out.be;clear kc hb
   go_wp2_with (refine wpList_store_blk (g:=w.heap.size) (T:=235) (cs':= #[.int .i64 0,.bool false,.int .i64 0,.int .i64 0,.bool false,.int .i64 0,.int .i64 0,.string nob]) rfl 235 _ _ rfl rfl rfl (HB17.out.nth 2 rfl) (by kernel_rfl) (by kernel_rfl) (by kernel_rfl) (by kernel_rfl) ?_;intro W9 hW9 hg9 hz9)
   have hVE:=HBE.out.trans (below_of_only hg9 HBE.out.size (fun k hk=>by injection hk with hk;omega));exact bodyPost_ret (v:= .tuple #[.agg zeroS.vals,.int .i64 12]) (by refine res_row (fn:=Tryz.f169) (p:=2) (q:=3) rfl _ _ w.heap.size 235 _ (0,0) _ ?_ hW9 Tryz.underlying235 rfl (by kernel_rfl);rfl) rfl ⟨by rw[HE.out.1,HE.out.2],hVE⟩
  ·have h0:decE t=0:=by rw[HE5.out,if_neg (fun h=>by rcases HF.out.1 h with h|h;(exact h hr3);(exact hlm h))]
   have HE:=Lib.hid (show decE t=0∧decS t=⟨(a:Int),b1,(e:Int),(v:Int),b2,(m:Int),(l:Int),X⟩from⟨h0,by rw[HS5.out,if_pos h0,HR.out]⟩);rw[if_neg hlm]at kc;clear hr3 hlm h0
   go_wp2_with fail
   (with_reducible refine(kc _).mono ?_);rintro e1 W17 ⟨rfl,hb⟩
   have HB17:=Lib.hid (HT16.out.below hb);clear kc hb c0 c1 c2 c3 c4 c5 c6 c7;have d0:=Blk.cell (HB17.out.nth 1 rfl) 0 (v:= .int .i64 (a:Int)) rfl;have d1:=Blk.cell (HB17.out.nth 1 rfl) 1 (v:= .bool b1) rfl;have d2:=Blk.cell (HB17.out.nth 1 rfl) 2 (v:= .int .i64 (e:Int)) rfl;have d3:=Blk.cell (HB17.out.nth 1 rfl) 3 (v:= .int .i64 (v:Int)) rfl;have d4:=Blk.cell (HB17.out.nth 1 rfl) 4 (v:= .bool b2) rfl;have d5:=Blk.cell (HB17.out.nth 1 rfl) 5 (v:= .int .i64 (m:Int)) rfl;have d6:=Blk.cell (HB17.out.nth 1 rfl) 6 (v:= .int .i64 (l:Int)) rfl;have d7:=Blk.cell (HB17.out.nth 1 rfl) 7 (v:= .string X) rfl
   go_wp2_with (refine wpList_store_blk (g:=w.heap.size) (T:=235) (cs':= #[.int .i64 (a:Int),.bool b1,.int .i64 (e:Int),.int .i64 (v:Int),.bool b2,.int .i64 (m:Int),.int .i64 (l:Int),.string X]) rfl 235 _ _ rfl rfl rfl (HB17.out.nth 2 rfl) (by kernel_rfl) (by kernel_rfl) (by kernel_rfl) (by kernel_rfl) ?_;intro W9 hW9 hg9 hz9)
   have hVE:=HB17.out.be.trans (below_of_only hg9 HB17.out.size (fun k hk=>by injection hk with hk;omega));exact bodyPost_ret (v:= .tuple #[.agg #[.int .i64 (a:Int),.bool b1,.int .i64 (e:Int),.int .i64 (v:Int),.bool b2,.int .i64 (m:Int),.int .i64 (l:Int),.string X],.int .i64 0]) (by refine res_row (fn:=Tryz.f169) (p:=2) (q:=3) rfl _ _ w.heap.size 235 _ (0,0) _ ?_ hW9 Tryz.underlying235 rfl (by kernel_rfl);rfl) rfl ⟨by rw[HE.out.1,HE.out.2];simp[Sc.vals],hVE⟩
 ·have t5:((r:Int)==3)=false:=by simp;omega
  have HE:=Lib.hid (dec_zero (t:=t) (c:=12) (by rw[HE5.out,if_pos (HF.out.2 (Or.inl hr3))]) (by decide));have HBE:=Lib.hid HT16.out.be;clear hr3
  go_wp2_with (refine wpList_store_blk (g:=w.heap.size) (T:=235) (cs':= #[.int .i64 0,.bool false,.int .i64 0,.int .i64 0,.bool false,.int .i64 0,.int .i64 0,.string nob]) rfl 235 _ _ rfl rfl rfl (HT16.out.nth 2 rfl) (by kernel_rfl) (by kernel_rfl) (by kernel_rfl) (by kernel_rfl) ?_;intro W9 hW9 hg9 hz9)
  have hVE:=HBE.out.trans (below_of_only hg9 HBE.out.size (fun k hk=>by injection hk with hk;omega));exact bodyPost_ret (v:= .tuple #[.agg zeroS.vals,.int .i64 12]) (by refine res_row (fn:=Tryz.f169) (p:=2) (q:=3) rfl _ _ w.heap.size 235 _ (0,0) _ ?_ hW9 Tryz.underlying235 rfl (by kernel_rfl);rfl) rfl ⟨by rw[HE.out.1,HE.out.2],hVE⟩
theorem decode_any (t:ByteArray) (w:World) (hs:t.size≤1099511627776):Calls Tryz.prog 169 #[.string t] w fun e w'=>e= .returned (.tuple #[.agg (decS t).vals,.int .i64 (decE t)])∧Below w.heap.size w w':=by
 by_cases h1:needE t=0
 ·by_cases h2:t.size=needN t
  ·by_cases h4:openE t=0
   ·exact dec_ok t w hs h1 h2 h4
   ·exact dec_open t w hs h1 h2 h4
  ·exact dec_len t w hs h1 h2
 ·exact dec_need t w hs h1
end Go.Proofs.YtibjkhepedfpiaaGreatDoor.SeK
namespace Go.Proofs.YtibjkhepedfpiaaGreatDoor.SeP
open Go Go.RowKit Q Mem Rg Ap St BiP BiA BiG BiH CrP CrC CrD SeA SeC SeG SeEq SeH SeI SeE
set_option maxRecDepth 100000
theorem at0_bl {s:ByteArray} {i:Nat} {c:UInt8} (h:(bl s)[i]? =some c):at0 s i=c.toNat:=by
 unfold at0 bl at*;rw[Array.getElem?_toList]at h;rw[h];rfl
theorem bl_at0 (s:ByteArray) (i:Nat) (h:i<s.size):(bl s)[i]? =some (UInt8.ofNat (at0 s i)):=by
 obtain⟨c,hc,_⟩:=byte_at s i h;rw[hc,at0_bl hc];simp
theorem head8 (u:ByteArray) (h:8≤u.size):bl u=[UInt8.ofNat (at0 u 0),UInt8.ofNat (at0 u 1),UInt8.ofNat (at0 u 2),UInt8.ofNat (at0 u 3),UInt8.ofNat (at0 u 4),UInt8.ofNat (at0 u 5),UInt8.ofNat (at0 u 6),UInt8.ofNat (at0 u 7)]++(bl u).drop 8:=by
 apply List.ext_getElem?;intro i;by_cases hi:i<8
 ·rw[List.getElem?_append_left (by simpa using hi),bl_at0 u i (by omega)]
  match i,hi with
  |0,_|1,_|2,_|3,_|4,_|5,_|6,_|7,_=>rfl
 ·rw[List.getElem?_append_right (by simp;omega),List.getElem?_drop]
  simp only[List.length_cons,List.length_nil]
  congr 1;omega
theorem nb_dec (n:Nat):nb (decide (n%2=1))=n%2:=by
 unfold nb;by_cases h:n%2=1<;>simp[h]<;>omega
theorem front_rd (u:ByteArray) (h8:8≤u.size) (h1:at0 u 1/16=11∨at0 u 1/16=15) (hn:at0 u 1%16*256+at0 u 2=u.size+1) (h5:at0 u 5/64=3):frontL (rdS u)++bl (rdS u).body=bl u:=by
 have hb:bl (rdS u).body=(bl u).drop 8:=by
  show bl (u.extract 8 u.size)=_;rw[ext_bl,List.take_of_length_le (by rw[List.length_drop,bl_len];omega)]
 have hs:(rdS u).body.size+9=u.size+1:=by
  show(u.extract 8 u.size).size+9=_;rw[ByteArray.size_extract];omega
 have l0:=at0_lt u 0;have l2:=at0_lt u 2;have l4:=at0_lt u 4;have l5:=at0_lt u 5;rw[hb]
 conv=>rhs;rw[head8 u h8]
 congr 1
 unfold frontL;rw[hs,←hn];simp only[rdS,Int.toNat_natCast,nb_dec];have e1:176+64*(at0 u 1/64%2)+(at0 u 1%16*256+at0 u 2)/256=at0 u 1:=by omega
 have e2:(at0 u 1%16*256+at0 u 2)%256=at0 u 2:=by omega
 have e3:(at0 u 3*256+at0 u 4)/256=at0 u 3:=by omega
 have e4:(at0 u 3*256+at0 u 4)%256=at0 u 4:=by omega
 have e5:192+2*(at0 u 5/2%32)+at0 u 5%2=at0 u 5:=by omega
 rw[e1,e2,e3,e4,e5]
theorem at0_take (t:ByteArray) (n i:Nat) (h:i<n) (hn:n≤t.size):at0 (t.extract 0 n) i=at0 t i:=by
 have h1:=bl_at0 t i (by omega);have h2:=bl_at0 (t.extract 0 n) i (by rw[ByteArray.size_extract];omega);rw[ext_bl,List.drop_zero,Nat.sub_zero,List.getElem?_take_of_lt h,h1]at h2;injection h2 with h2
 have l1:=at0_lt t i;have l2:=at0_lt (t.extract 0 n) i;have:=congrArg UInt8.toNat h2;simp at this;omega
theorem dec_enc {t:ByteArray} (h:decE t=0):(decS t).chk=0∧bytesS (decS t)=t:=by
 have hd:decS t=rdS (openS t):=by unfold decS;rw[if_pos h]
 rw[hd];unfold decE at h;by_cases h1:needE t=0
 ·rw[if_neg (by simpa using h1)]at h
  obtain⟨g1,g2⟩:=need_le h1;by_cases h2:t.size<needN t
  ·rw[if_pos h2]at h;omega
  ·rw[if_neg h2]at h
   by_cases h3:needN t<t.size
   ·rw[if_pos h3]at h;omega
   ·rw[if_neg h3]at h
    by_cases h4:openE t=0
    ·rw[if_neg (by simpa using h4)]at h
     by_cases h5:fBad (openS t)
     ·rw[if_pos h5]at h;omega
     ·have hu:openS t=t.extract 0 (t.size-4):=by unfold openS;rw[if_pos h4]
      have h0:sumL (bl t)=0#32:=by
       unfold openE at h4;rw[if_neg (by omega)]at h4;by_cases hz:sumL (bl t)=0#32
       ·exact hz
       ·rw[if_neg hz]at h4;omega
      have hsz:=open_size h4 (by omega);have hseal:=(seal_open t (by omega)).2 h0;rw[←hu]at hseal;have hnN:needN t=nN t+3:=by unfold needN;rw[if_pos h1]
      have hnb: ¬nBad t:=by
       intro hb;unfold needE at h1;rw[if_neg (by omega),if_pos hb]at h1;omega
      unfold nBad nN at hnb;unfold nN at hnN;have a1:at0 (openS t) 1=at0 t 1:=by rw[hu];exact at0_take t _ 1 (by omega) (by omega)
      have a2:at0 (openS t) 2=at0 t 2:=by rw[hu];exact at0_take t _ 2 (by omega) (by omega)
      unfold fBad at h5;obtain⟨u,hue⟩: ∃u,openS t=u:=⟨_,rfl⟩;rw[hue]at a1 a2 h5 hsz hseal ⊢;have hf:=front_rd u (by omega) (by rw[a1];omega) (by rw[a1,a2];omega) (by omega);have l0:=at0_lt u 0;have l3:=at0_lt u 3;have l4:=at0_lt u 4;have l7:=at0_lt u 7;refine⟨?_,?_⟩
      ·refine chk_ok ?_ ?_
       ·unfold Sc.ok rdS;dsimp only;omega
       ·show ¬4084<(u.extract 8 u.size).size
        rw[ByteArray.size_extract];omega
      ·unfold bytesS
       rw[hf];exact hseal
    ·rw[if_pos h4]at h;exact absurd h h4
 ·rw[if_pos h1]at h;exact absurd h h1
theorem bytes_bl (s:Sc):bl (bytesS s)=sealL (frontL s++bl s.body):=bl_str _
theorem front_len (s:Sc):(frontL s).length=8:=rfl
theorem bytes_size (s:Sc):(bytesS s).size=s.body.size+12:=by
 rw[←bl_len,bytes_bl,seal_len,List.length_append,front_len,bl_len];omega
theorem bytes_open (s:Sc):openE (bytesS s)=0∧openS (bytesS s)=str (frontL s++bl s.body):=by
 have h1:openE (bytesS s)=0:=by
  unfold openE;rw[if_neg (by rw[bytes_size];omega),bytes_bl,if_pos (open_seal _)]
 refine⟨h1,?_⟩;unfold openS;rw[if_pos h1];apply bl_inj;rw[ext_bl,bl_str,List.drop_zero,bytes_bl,bytes_size];unfold sealL;rw[List.take_append_of_le_length (by rw[List.length_append,front_len,bl_len];omega),List.take_of_length_le (by rw[List.length_append,front_len,bl_len];omega)]
theorem at0_str (l:List UInt8) (i:Nat) (c:UInt8) (h:l[i]? =some c):at0 (str l) i=c.toNat:=at0_bl (by rw[bl_str];exact h)
theorem enc_dec {s:Sc} (h:s.chk=0):decE (bytesS s)=0∧decS (bytesS s)=s∧needE (bytesS s)=0∧needN (bytesS s)=s.body.size+12:=by
 obtain⟨⟨⟨a1,a2⟩,⟨b1,b2⟩,⟨c1,c2⟩,⟨d1,d2⟩,e1,e2⟩,hb⟩:=chk_zero h;obtain⟨o1,o2⟩:=bytes_open s;have hsz:=bytes_size s;have hp:=nb_le s.priv;have hn:=nb_le s.now
 have hU: ∀(i:Nat) (c:UInt8),(frontL s)[i]? =some c→at0 (str (frontL s++bl s.body)) i=c.toNat:=fun i c hc=>at0_str _ i c (by
  rw[List.getElem?_append_left (List.getElem?_eq_some_iff.1 hc).1];exact hc)
 have hT: ∀(i:Nat) (c:UInt8),(frontL s)[i]? =some c→at0 (bytesS s) i=c.toNat:=fun i c hc=>at0_bl (by
  rw[bytes_bl];unfold sealL;have hl:=(List.getElem?_eq_some_iff.1 hc).1;rw[List.getElem?_append_left (by rw[List.length_append];omega),List.getElem?_append_left hl];exact hc)
 have t1:=hT 1 _ rfl;have t2:=hT 2 _ rfl;have u0:=hU 0 _ rfl;have u1:=hU 1 _ rfl;have u3:=hU 3 _ rfl;have u4:=hU 4 _ rfl;have u5:=hU 5 _ rfl;have u6:=hU 6 _ rfl;have u7:=hU 7 _ rfl;simp only[UInt8.toNat_ofNat']at t1 t2 u0 u1 u3 u4 u5 u6 u7;have n1:nN (bytesS s)=s.body.size+9:=by unfold nN;rw[t1,t2];omega
 have n2: ¬nBad (bytesS s):=by unfold nBad;rw[n1,t1];omega
 have n3:needE (bytesS s)=0:=by unfold needE;rw[if_neg (by omega),if_neg n2]
 have n4:needN (bytesS s)=s.body.size+12:=by unfold needN;rw[if_pos n3,n1]
 have hnf: ¬fBad (openS (bytesS s)):=by rw[o2];unfold fBad;rw[u5,u6,u7];omega
 have n5:decE (bytesS s)=0:=by
  unfold decE;rw[if_neg (by simpa using n3),if_neg (by omega),if_neg (by omega),if_neg (by simpa using o1),if_neg hnf]
 refine⟨n5,?_,n3,n4⟩;unfold decS;rw[if_pos n5,o2]
 have hbody:(str (frontL s++bl s.body)).extract 8 (str (frontL s++bl s.body)).size=s.body:=by
  apply bl_inj;rw[ext_bl,bl_str,List.drop_append_of_le_length (by rw[front_len];omega),List.drop_of_length_le (by rw[front_len];omega),List.nil_append,List.take_of_length_le (by rw[str_size,List.length_append,front_len];omega)]
 have q1:(176+64*nb s.priv+(s.body.size+9)/256)%2^8/64%2=nb s.priv:=by omega
 have q2:(192+2*s.version.toNat+nb s.now)%2^8%2=nb s.now:=by omega
 have db: ∀b:Bool,decide (nb b=1)=b:=fun b=>by cases b<;>rfl
 rw[sc_iff];unfold rdS;dsimp only;rw[u0,u1,u3,u4,u5,u6,u7,q1,q2,db,db,hbody];refine⟨by omega,rfl,by omega,by omega,rfl,by omega,by omega,rfl⟩
end Go.Proofs.YtibjkhepedfpiaaGreatDoor.SeP
namespace Go.Proofs.YtibjkhepedfpiaaGreatDoor.Turn
open Go Go.RowKit Q Mem Rg Ap St CrP CrC SeA SeC SeE SeG SeEq SeI SeP BiH
theorem any_gen {F:World→Prop} {w:World} (S:World→Prop) (hS:S w) (h: ∀V,S V→F V):F w:=h w hS
end Go.Proofs.YtibjkhepedfpiaaGreatDoor.Turn
