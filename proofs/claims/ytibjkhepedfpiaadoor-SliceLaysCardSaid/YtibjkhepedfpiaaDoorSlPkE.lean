import Derived.Test.YtibjkhepedfpiaaDoorSlPaR
import Derived.Test.YtibjkhepedfpiaaDoorSlPkP
namespace Go.Proofs.YtibjkhepedfpiaaDoor.PkE
open Go Go.RowKit Q Mem Rg Ap St BiP BiW BiF BiA BiG CrB PaR PkP
def wd:List Nat:=[8,1,1,1,13,2,2,4]
structure Wid (b:Nat) (w:World):Prop where
 c: ∀(k x:Nat),wd[k]? =some x→w.cell? ⟨b,k,none⟩=some (.int .i64 (x:Int))
 lt:b<w.heap.size
theorem Wid.below {b B:Nat} {w w':World} (h:Wid b w) (hb:Below B w w') (hB:b<B):Wid b w':=
 ⟨fun k x hk=>(World.cell?_of_block (a:=⟨b,k,none⟩) (hb.block b hB)).trans (h.c k x hk),Nat.lt_of_lt_of_le h.lt hb.size⟩
theorem Wid.be {b:Nat} {w w':World} (h:Wid b w) (hb:Below w.heap.size w w'):Wid b w':=h.below hb h.lt
theorem Wid.ext {b:Nat} {w:World} (h:Wid b w) (p:Ext):Wid b (ext w p):=h.be (below_ext w p)
set_option maxRecDepth 100000
theorem check_any (pid count:Nat) (start:Bool) (body:ByteArray) (w:World) (hp:pid<8192) (hc:count<16) (hb:body.size≤184):
 Calls Tryd.prog 48 #[.agg #[.int .i64 (pid:Int),.bool start,.int .i64 (count:Int),.bool false,.string body]] w fun e w'=>e= .returned (.int .i64 0)∧Below w.heap.size w w':=by
 have t1:decide ((pid:Int)<0)=false:=decide_eq_false (by omega);have t2:decide ((8192:Int)≤(pid:Int))=false:=decide_eq_false (by omega);have t3:decide ((count:Int)<0)=false:=decide_eq_false (by omega);have t4:decide ((15:Int)<(count:Int))=false:=decide_eq_false (by omega);have t5:decide ((184:Int)<(body.size:Int))=false:=decide_eq_false (by omega);have HB:=Lib.hid (bk1 w 92 #[.int .i64 (pid:Int),.bool start,.int .i64 (count:Int),.bool false,.string body]);have c0:=Blk.cell (HB.out.nth 0 rfl) 0 (v:= .int .i64 (pid:Int)) rfl;have c1:=Blk.cell (HB.out.nth 0 rfl) 1 (v:= .bool start) rfl;have c2:=Blk.cell (HB.out.nth 0 rfl) 2 (v:= .int .i64 (count:Int)) rfl;have c3:=Blk.cell (HB.out.nth 0 rfl) 3 (v:= .bool false) rfl;have c4:=Blk.cell (HB.out.nth 0 rfl) 4 (v:= .string body) rfl;obtain⟨p,hpe⟩: ∃p:Int,(pid:Int)=p:=⟨_,rfl⟩;obtain⟨n,hne⟩: ∃n:Int,(count:Int)=n:=⟨_,rfl⟩;rw[hpe]at t1 t2 c0;rw[hne]at t3 t4 c2;rw[hpe,hne]at HB ⊢;clear hp hc hb hpe hne
 go_enter Tryd.func48,Tryd.ntmps48
 go_wp2_with fail
 all_goals
  first
  |(go_ret;exact⟨rfl,HB.out.be⟩)
  |skip
theorem flag_any (b:Bool) (w:World):Calls Tryd.prog 49 #[.bool b] w fun e w'=>e= .returned (.int .i64 (nb b:Int))∧w=w':=by
 cases b
 all_goals
  go_enter Tryd.func49,Tryd.ntmps49
  go_wp2_with fail
  go_ret;exact⟨rfl,rfl⟩
def stf (n:Nat):List UInt8:=if n=184 then[]else[0]
theorem stuffed_any (n:Nat) (w:World) (h:n=184∨n=183):Calls Tryd.prog 52 #[.int .i64 (n:Int)] w fun e w'=>e= .returned (.string (str (stf n)))∧w=w':=by
 rcases h with rfl|rfl
 all_goals
  go_enter Tryd.func52,Tryd.ntmps52
  go_wp2_with fail
  go_ret;exact⟨by kernel_rfl,rfl⟩
theorem otext_list (g B:Nat) (v:Value) (bits:List Bool) (L:List ByteArray) (w:World) (b n:Nat) (hn:L.length=n) (hn2:n≤1000000) (hb:g≠b) (hbs:b<w.heap.size) (hO:OutV w g B v bits)
 (hc: ∀k s,L[k]? =some s→w.cell? ⟨b,k,none⟩=some (.string s)) (hvb: ∀r,v.ownBlock=some r→r≠b)
 (hl: ∀k s,L[k]? =some s→bits.length+8*(((L.take k).map bl).flatten.length+s.size)≤8796093022208):
 Calls Tryd.prog 51 #[.pointer (some ⟨g,0,none⟩),.slice (some ⟨b,0,none⟩) n n] w fun e w'=>e= .returned (.tuple #[])∧ ∃v',OutV w' g B v' (bits++bitsL ((L.map bl).flatten))∧Grow g v w v' w':=by
 have HO:=Lib.hid hO;have HNB:=Lib.hid (And.intro hb (And.intro hvb hbs));have HC:=Lib.hid hc;have HL:=Lib.hid hl;have HN:=Lib.hid hn;clear hO hb hvb hc hl hn hbs
 go_enter Tryd.func51,Tryd.ntmps51
 go_wp2_with fail
 go_loopw [9] (fun i wr=> ∃(q:Nat) (v1:Value),q≤n∧i= .int .i64 q∧Hid (OutV wr g B v1 (bits++bitsL (((L.take q).map bl).flatten))∧Grow g v w v1 wr)) (fun i _=>n-(intOf i).toNat)
 case atStart=>exact⟨0,v,by omega,rfl,Lib.hid ⟨by simpa [bitsL]using HO.out,Grow.refl _ _ _⟩⟩
 case round=>
  obtain⟨q,v1,hq,rfl,hI⟩:=hrel;by_cases hqn:q<n
  ·have t0:decide ((q:Int)<(n:Int))=true:=by simp;omega
   have t0':decide (q<n)=true:=decide_eq_true hqn;obtain⟨s,hs⟩: ∃s,L[q]? =some s:=⟨_,List.getElem?_eq_getElem (by rw[HN.out];exact hqn)⟩;have c0:wr.cell? ⟨b,q,none⟩=some (.string s):=(World.cell?_of_block (a:=⟨b,q,none⟩) (hI.out.2.block b HNB.out.2.2 (fun e=>HNB.out.1 e.symm) (fun e=>HNB.out.2.1 b e.symm rfl))).trans (HC.out q s hs);have k0:(0:Int)≤(q:Int):=Int.natCast_nonneg _;have k1:(q:Int)<(n:Int):=by omega
   have HLs:=Lib.hid (HL.out q s hs);have hsz:s.size≤1099511627776:=by have:=HLs.out;omega
   have HQ:=Lib.hid (show((L.take (q+1)).map bl).flatten=((L.take q).map bl).flatten++bl s from by rw[List.take_add_one,hs];simp);obtain⟨bits1,hbits1⟩: ∃b1,bits++bitsL (((L.take q).map bl).flatten)=b1:=⟨_,rfl⟩;have HBL:=Lib.hid (show bits1.length=bits.length+8*((L.take q).map bl).flatten.length from by rw[←hbits1,List.length_append,bitsL_len]);have HE1:=Lib.hid hbits1;rw[hbits1]at hI;clear hs hbits1
   go_wp2_with fail
   obtain⟨wo,hwo⟩: ∃wo:World,wo=wr:=⟨_,rfl⟩;rw[←hwo]at hI c0
   go_loopw [15] (fun i wr=> ∃(k:Nat) (v':Value),k≤s.size∧i= .int .i64 k∧Hid (OutV wr g B v' (bits1++bitsL ((bl s).take k))∧Grow g v w v' wr)) (fun i _=>s.size-(intOf i).toNat)
   case atStart=>exact⟨0,v1,by omega,rfl,Lib.hid ⟨by rw[←hwo];simpa [bitsL]using hI.out.1,by rw[←hwo];exact hI.out.2⟩⟩
   case round=>
    obtain⟨k,v',hk,rfl,hJ⟩:=hrel;by_cases hks:k<s.size
    ·have t1:decide ((k:Int)<(s.size:Int))=true:=by simp;omega
     obtain⟨c,hcb,hat⟩:=byte_at s k hks;have ix: ∀V:World,(Instr.index 9 (.string s) (.int .i64 (k:Int))).run Tryd.prog V= .ok (.int .u8 (c.toNat:Int)) V:=fun V=>by rw[idx_at s k hks V,hat]
     have hlt:=UInt8.toNat_lt c;have HT:=Lib.hid (show bits1++bitsL ((bl s).take (k+1))=(bits1++bitsL ((bl s).take k))++bitsOf c.toNat 8 by rw[take_snoc hcb,bitsL_snoc,List.append_assoc]);have kp:=put_any g B v' (bits1++bitsL ((bl s).take k)) c.toNat 8 wr hJ.out.1 (by rw[List.length_append,bitsL_len,List.length_take];have:=HLs.out;have:=HBL.out;omega) (by omega) (by decide);rw[show((8:Nat):Int)=8 from rfl]at kp;have q1:IntKind.u64.wrap (c.toNat:Int)=(c.toNat:Int):=by simp[IntKind.wrap,IntKind.bits,IntKind.signed];omega
     obtain⟨m,hm⟩: ∃m,c.toNat=m:=⟨_,rfl⟩;rw[hm]at ix kp q1 HT;have HG:=Lib.hid hJ.out.2;clear hcb hat hlt hJ hm c0
     go_wp2_with fail
     (with_reducible refine(kp).mono ?_);rintro e1 W1 ⟨rfl,v2,hO2,hG2⟩
     have HI:=Lib.hid (show OutV W1 g B v2 (bits1++bitsL ((bl s).take (k+1)))∧Grow g v w v2 W1 from⟨by rw[HT.out];exact hO2,HG.out.trans hG2⟩);clear kp hO2 hG2
     go_wp2_with fail
     go_roundw
     case rel=>exact⟨k+1,v2,by omega,by go_num,HI⟩
     case measure=>simp[intOf];omega
    ·obtain rfl:k=s.size:=by omega
     have t1:decide ((s.size:Int)<(s.size:Int))=false:=by simp
     rw[show(bl s).take s.size=bl s by rw[←bl_len,List.take_length]]at hJ;have HI:=Lib.hid (show OutV wr g B v' (bits++bitsL (((L.take (q+1)).map bl).flatten))∧Grow g v w v' wr from⟨by rw[HQ.out,show bitsL (((L.take q).map bl).flatten++bl s)=bitsL (((L.take q).map bl).flatten)++bitsL (bl s)from by simp[bitsL],←List.append_assoc,HE1.out];exact hJ.out.1,hJ.out.2⟩);clear c0 hJ
     go_wp2_with fail
     go_roundw
     case rel=>exact⟨q+1,v',by omega,by go_num,HI⟩
     case measure=>simp[intOf];omega
  ·obtain rfl:q=n:=by omega
   have t0:decide ((q:Int)<(q:Int))=false:=by simp
   have t0':decide (q<q)=false:=by simp
   have HF:=Lib.hid (show ∃v',OutV wr g B v' (bits++bitsL ((L.map bl).flatten))∧Grow g v w v' wr from⟨v1,by have:=hI.out.1;rwa [List.take_of_length_le (by rw[HN.out];exact Nat.le_refl _)]at this,hI.out.2⟩);clear hI
   go_wp2_with fail
   go_end0
   exact⟨rfl,HF.out⟩
def flds (pid:Nat) (start:Bool) (count what:Nat):List (Nat×Nat):=[(71,8),(0,1),(nb start,1),(0,1),(pid,13),(0,2),(what,2),(count,4)]
def fbits (F:List (Nat×Nat)):List Bool:=F.flatMap fun f=>bitsOf f.1 f.2
theorem fbits_snoc {F:List (Nat×Nat)} {k:Nat} {f:Nat×Nat} (h:F[k]? =some f):fbits (F.take (k+1))=fbits (F.take k)++bitsOf f.1 f.2:=by rw[List.take_add_one,h];simp[fbits]
theorem front_bits (pid count what:Nat) (start:Bool) (b:List UInt8) (hp:pid<8192) (hc:count<16) (hw:what<4):
 pk (fbits (flds pid start count what)++bitsL b)=[71,b8 ((if start then 64 else 0)+pid/256),b8 (pid%256),b8 (16*what+count)]++b:=by
 have hn:=nb_le start
 have e1:bitsOf 0 1++(bitsOf (nb start) 1++(bitsOf 0 1++bitsOf pid 13))=bitsOf (64*nb start+pid/256) 8++bitsOf (pid%256) 8:=by
  rw[bitsOf_join 0 pid 1 13 (by omega),bitsOf_join (nb start) _ 1 14 (by omega),bitsOf_join 0 _ 1 15 (by omega),bitsOf_join _ (pid%256) 8 8 (by omega)];exact congrArg (fun x=>bitsOf x 16) (by omega)
 have e2:bitsOf 0 2++(bitsOf what 2++bitsOf count 4)=bitsOf (16*what+count) 8:=by
  rw[bitsOf_join what count 2 4 (by omega),bitsOf_join 0 _ 2 6 (by omega)];exact congrArg (fun x=>bitsOf x 8) (by omega)
 have hx:fbits (flds pid start count what)=bitsOf 71 8++(bitsOf (64*nb start+pid/256) 8++(bitsOf (pid%256) 8++(bitsOf (16*what+count) 8++[]))):=by
  unfold fbits flds;simp only[List.flatMap_cons,List.flatMap_nil];rw[←List.append_assoc (bitsOf (64*nb start+pid/256) 8),←e1,←e2];simp only[List.append_assoc]
 rw[hx];simp only[List.append_assoc,List.nil_append,pk_cons,pk_bytes];have:64*nb start=if start then 64 else 0:=by cases start<;>rfl
 rw[this];rfl
theorem fbits_len (pid count what:Nat) (start:Bool) (k:Nat):(fbits ((flds pid start count what).take k)).length≤1000:=by
 have: ∀F:List (Nat×Nat),(∀f∈F,f.2≤16)→(fbits F).length≤16*F.length:=by
  intro F hF
  induction F with
  |nil=>simp[fbits]
  |cons f t ih=>
   have h1:=hF f (List.mem_cons_self ..);have h2:=ih (fun x hx=>hF x (List.mem_cons_of_mem _ hx));simp only[fbits,List.flatMap_cons,List.length_append,bitsOf_len,List.length_cons]at h2 ⊢;omega
 have h:=this ((flds pid start count what).take k) (fun f hf=>by
  have:=List.mem_of_mem_take hf;simp[flds]at this;rcases this with rfl|rfl|rfl|rfl|rfl|rfl|rfl|rfl<;>simp)
 have h2:((flds pid start count what).take k).length≤8:=List.length_take_le' k (flds pid start count what);omega
theorem idx_fl (P S N W k:Nat) (Wi:Int) (hW:Wi=(W:Int)) (f:Nat×Nat) (hf:[(71,8),(0,1),(S,1),(0,1),(P,13),(0,2),(W,2),(N,4)][k]? =some f) (V:World):
 (Instr.index 110 (.agg #[.int .i64 71,.int .i64 0,.int .i64 (S:Int),.int .i64 0,.int .i64 (P:Int),.int .i64 0,.int .i64 Wi,.int .i64 (N:Int)]) (.int .i64 (k:Int))).run Tryd.prog V= .ok (.int .i64 (f.1:Int)) V∧wd[k]? =some f.2:=by
 subst hW
 match k,hf with
 |0,hf|1,hf|2,hf|3,hf|4,hf|5,hf|6,hf|7,hf=>(injection hf with hf;rw[←hf];exact⟨by show(_:Result Value)=_;kernel_rfl,rfl⟩)
 |_+8,hf=>simp at hf
theorem fl_le {P S N W k:Nat} {f:Nat×Nat} (hf:[(71,8),(0,1),(S,1),(0,1),(P,13),(0,2),(W,2),(N,4)][k]? =some f) (h:P<65536∧S<65536∧N<65536∧W<65536):f.1<65536∧f.2≤16:=by
 match k,hf with
 |0,hf|1,hf|2,hf|3,hf|4,hf|5,hf|6,hf|7,hf=>injection hf with hf;subst hf;dsimp only;omega
 |_+8,hf=>simp at hf
theorem encode_any (pid count:Nat) (start:Bool) (body:ByteArray) (w:World) (hW:Wid 0 w) (hp:pid<8192) (hc:count<16) (hb:body.size=184∨body.size=183):
 Calls Tryd.prog 36 #[.agg #[.int .i64 (pid:Int),.bool start,.int .i64 (count:Int),.bool false,.string body]] w fun e w'=>e= .returned (.tuple #[.string (str (pkB pid start count (bl body))),.int .i64 0])∧Below w.heap.size w w':=by
 rcases hb with hb|hb
 ·have k1:=fun V=>check_any pid count start body V hp hc (by omega)
  have HX:=Lib.hid (show str (pkB pid start count (bl body))=str (pk (fbits (flds pid start count 1)++bitsL (([str (stf body.size),body].map bl).flatten)))from by
   rw[front_bits _ _ _ _ _ hp hc (by decide)];unfold pkB;simp[bl_str,stf,bl_len,hb])
  have kst: ∀V,Calls Tryd.prog 52 #[.int .i64 (body.size:Int)] V fun e w'=>e= .returned (.string (str (stf body.size)))∧Below V.heap.size V w':=fun V=>(stuffed_any body.size V (by omega)).mono (fun _ _ h=>⟨h.1,h.2▸Below.refl _ _⟩);have HST:=Lib.hid (show(str (stf body.size)).size≤1 from by unfold stf;split<;>simp[str_size]);have hB0:=bk1 w 92 #[.int .i64 (pid:Int),.bool start,.int .i64 (count:Int),.bool false,.string body];have kt: ∀V,Calls Tryd.prog 49 #[.bool true] V fun e w'=>e= .returned (.int .i64 1)∧V=w':=fun V=>flag_any true V;have kz: ∀V,Calls Tryd.prog 49 #[.bool false] V fun e w'=>e= .returned (.int .i64 0)∧V=w':=fun V=>flag_any false V;have hor:bits BinOp.or IntKind.i64 1 0=1:=by rfl
  have kf: ∀V,Calls Tryd.prog 49 #[.bool false] V fun e w'=>e= .returned (.int .i64 0)∧V=w':=fun V=>flag_any false V;have ks:=fun V=>flag_any start V;have hS:=nb_le start;have HFX:=Lib.hid (fbits_len pid count 1 start);have t2:decide ((body.size:Int)<184)=false:=by rw[hb];decide
  have t2':decide (body.size<184)=false:=by rw[hb];decide
  have t3:(body.toList==[])=false:=by
   refine beq_eq_false_iff_ne.2 (fun e=>?_);have h9:body.data.toList.length=0:=by rw[←ByteArray.toList_eq,e];rfl
   rw[Array.length_toList]at h9;have h10:body.size=0:=h9;omega
  have HFL:=Lib.hid (show flds pid start count 1=[(71,8),(0,1),(nb start,1),(0,1),(pid,13),(0,2),(1,2),(count,4)]from rfl);obtain⟨FL,hFL⟩: ∃FL,flds pid start count 1=FL:=⟨_,rfl⟩;rw[hFL]at HFL HX HFX;obtain⟨S,hSe⟩: ∃S,nb start=S:=⟨_,rfl⟩;rw[hSe]at ks hS HFL;have HI:=Lib.hid (fun k=>idx_fl pid S count 1 k 1 rfl);have HLE:=Lib.hid (fun k f hf=>fl_le (P:=pid) (S:=S) (N:=count) (W:=1) (k:=k) (f:=f) hf ⟨by omega,by omega,by omega,by omega⟩);obtain⟨X,hX⟩: ∃X,str (pkB pid start count (bl body))=X:=⟨_,rfl⟩;obtain⟨ST,hST⟩: ∃ST,str (stf body.size)=ST:=⟨_,rfl⟩;rw[hX]at HX ⊢;rw[hST]at HX kst HST;have HB:=Lib.hid hB0;have HWD:=Lib.hid hW;have HBZ:=Lib.hid (show body.size≤184 from by omega);have hpz:(pid:Int)<8192:=by omega
  have hcz:(count:Int)<16:=by omega
  clear hX hST hSe hFL hB0 hb hp hc hW
  go_enter Tryd.func36,Tryd.ntmps36
  go_wp2_with fail
  (with_reducible refine(k1 _).mono ?_);rintro e1 W1 ⟨rfl,hb1⟩
  have HB1:=Lib.hid (HB.out.below hb1);clear k1 HB hb1;have c0:=fun pX=>Blk.cell (blk_ext (HB1.out.nth 0 rfl) pX) 0 (v:= .int .i64 (pid:Int)) rfl;have c1:=fun pX=>Blk.cell (blk_ext (HB1.out.nth 0 rfl) pX) 1 (v:= .bool start) rfl;have c2:=fun pX=>Blk.cell (blk_ext (HB1.out.nth 0 rfl) pX) 2 (v:= .int .i64 (count:Int)) rfl;have c3:=fun pX=>Blk.cell (blk_ext (HB1.out.nth 0 rfl) pX) 3 (v:= .bool false) rfl;have c4:=fun pX=>Blk.cell (blk_ext (HB1.out.nth 0 rfl) pX) 4 (v:= .string body) rfl
  go_wp2_with fail
  refine Go.Proofs.YtibjkhepedfpiaaDoor.Q.region_ext (by kernel_rfl) (by kernel_rfl) ?_
  repeat (go_big_quiet_step ((first|(go_at_call 49;refine ext_call_same (kt _))|(go_at_call 49;refine ext_call_same (kz _)))))
  refine wpQuiet_nil ?_;rintro w9 ⟨pq,rfl⟩;have HB2:=Lib.hid ((HB1.out.px pq).new 109 #[.slice none 0 0,.int .i64 0]);have hgw:=(HB1.out.px pq).size;clear c0 c1 c2 c3 c4;have c0:=fun pX=>Blk.cell (blk_ext (HB2.out.nth 1 rfl) pX) 0 (v:= .int .i64 (pid:Int)) rfl;have c1:=fun pX=>Blk.cell (blk_ext (HB2.out.nth 1 rfl) pX) 1 (v:= .bool start) rfl;have c2:=fun pX=>Blk.cell (blk_ext (HB2.out.nth 1 rfl) pX) 2 (v:= .int .i64 (count:Int)) rfl;have c3:=fun pX=>Blk.cell (blk_ext (HB2.out.nth 1 rfl) pX) 3 (v:= .bool false) rfl;have c4:=fun pX=>Blk.cell (blk_ext (HB2.out.nth 1 rfl) pX) 4 (v:= .string body) rfl
  go_wp2_with fail
  refine Go.Proofs.YtibjkhepedfpiaaDoor.Q.region_ext (by kernel_rfl) (by kernel_rfl) ?_
  repeat (go_big_quiet_step ((first|(go_at_call 49;refine ext_call_same (kf _))|(go_at_call 49;refine ext_call_same (ks _)))))
  refine wpQuiet_nil ?_;rintro w9 ⟨pr,rfl⟩;have HB3:=Lib.hid (HB2.out.px pr);have hg1w:w.heap.size<(ext W1 pq).heap.size:=(HB1.out.px pq).lt 0 rfl;obtain⟨g,hg⟩: ∃g,(ext W1 pq).heap.size=g:=⟨_,rfl⟩;rw[hg]at HB3 hgw hg1w ⊢;obtain⟨W0,hW0⟩: ∃W0,ext ((ext W1 pq).alloc (.cells #[.slice none 0 0,.int .i64 0] 109)) pr=W0:=⟨_,rfl⟩;rw[hW0]at HB3 ⊢;have hg1:g+1≤W0.heap.size:=HB3.out.lt 0 rfl;have HO0:=Lib.hid (show OutV W0 g (g+1) (.slice none 0 0) (fbits (FL.take 0))from⟨HB3.out.nth 0 rfl,by rw[show fbits (FL.take 0)=[] by simp[fbits],show pk []=[]from rfl];exact World.ownsRow_nil _ _ _ _,by omega,hg1⟩);have HW0:=Lib.hid (HWD.out.be HB3.out.be);have hGw:0<w.heap.size:=HWD.out.lt;clear c0 c1 c2 c3 c4 kt kz kf ks hW0 HB2 HB1 hg
  go_wp2_with fail
  go_loopw [38] (fun i wr=> ∃(k:Nat) (v':Value),k≤8∧i= .int .i64 k∧Hid (OutV wr g (g+1) v' (fbits (FL.take k))∧Grow g (.slice none 0 0) W0 v' wr)) (fun i _=>8-(intOf i).toNat)
  case atStart=>exact⟨0,_,by omega,rfl,Lib.hid ⟨HO0.out,Grow.refl _ _ _⟩⟩
  case round=>
   obtain⟨k,v',hk,rfl,hI⟩:=hrel;by_cases hk11:k<8
   ·have t1:decide ((k:Int)<8)=true:=by simp;omega
    obtain⟨f,hf⟩: ∃f,FL[k]? =some f:=⟨_,List.getElem?_eq_getElem (by rw[HFL.out];exact hk11)⟩;have HS:=Lib.hid (fbits_snoc hf);have hlen:=HFX.out k;rw[HFL.out]at hf;have ix:=fun V=>(HI.out k f hf V).1;have hwd:=(HI.out k f hf wr).2;obtain⟨l1,l2⟩:=HLE.out k f hf;obtain⟨x,y⟩:=f;dsimp only at ix hwd l1 l2 HS;have cw:wr.cell? ⟨0,k,none⟩=some (.int .i64 (y:Int)):=(World.cell?_of_block (a:=⟨0,k,none⟩) (hI.out.2.block 0 (by omega) (by omega) (by simp[Value.ownBlock]))).trans (HW0.out.c k y hwd);have kp:=put_any g (g+1) v' (fbits (FL.take k)) x y wr hI.out.1 (by omega) (by omega) (by omega);have q1:IntKind.u64.wrap (x:Int)=(x:Int):=by simp[IntKind.wrap,IntKind.bits,IntKind.signed];omega
    have HG:=Lib.hid hI.out.2;have k0:(0:Int)≤(k:Int):=Int.natCast_nonneg _;have k8:(k:Int)<8:=by omega
    clear hlen hf hI hwd
    go_wp2_with fail
    (with_reducible refine(kp).mono ?_);rintro e1 W2 ⟨rfl,v2,hO2,hG2⟩
    have HI2:=Lib.hid (show OutV W2 g (g+1) v2 (fbits (FL.take (k+1)))∧Grow g (.slice none 0 0) W0 v2 W2 from⟨by rw[HS.out];exact hO2,HG.out.trans hG2⟩);clear kp hO2 hG2 ix HG HS
    go_wp2_with fail
    go_roundw
    case rel=>exact⟨k+1,v2,by omega,by go_num,HI2⟩
    case measure=>simp[intOf];omega
   ·obtain rfl:k=8:=by omega
    have t1:decide (((8:Nat):Int)<8)=false:=by decide
    rw[show FL.take 8=FL by rw[List.take_of_length_le (by rw[HFL.out];exact Nat.le_refl 8)]]at hI
    have hbx:Blk wr w.heap.size 92 #[.int .i64 (pid:Int),.bool start,.int .i64 (count:Int),.bool false,.string body]:=
     (hI.out.2.block _ (by omega) (by omega) (by simp[Value.ownBlock])).trans (HB3.out.nth 1 rfl)
    have c4:=fun pX=>Blk.cell (blk_ext hbx pX) 4 (v:= .string body) rfl;have hwr:=hI.out.1.bw;have hrow:=hI.out.1.row;have hlF:(fbits FL).length≤1000:=by have:=HFX.out 8;rwa [List.take_of_length_le (by rw[HFL.out];exact Nat.le_refl 8)]at this
    clear hbx HI HLE
    go_wp2_with fail
    refine Go.Proofs.YtibjkhepedfpiaaDoor.Rg.region_new [(3,val (.string ST)),(6,newS 2 9 #[.string ST,.string body] wr.heap.size)] 7 (by kernel_rfl) (by kernel_rfl) (by kernel_rfl) (lk_cons val_inh (lk_cons newS_inh lk_nil)) (lk_cons val_mono (lk_cons newS_mono lk_nil)) ?_;intro σ hσ;simp only[List.take_succ_cons,List.take_zero,List.drop_succ_cons,List.drop_zero];have hv3:σ 3= .string ST:=hσ 3 _ rfl;refine Go.Proofs.YtibjkhepedfpiaaDoor.Rg.wpN_take 3 (by kernel_rfl) (by kernel_rfl) (by kernel_rfl) ?_;simp only[List.take_succ_cons,List.take_zero,List.drop_succ_cons,List.drop_zero]
    repeat (go_big_quiet_step (fail))
    refine wpQuiet_nil ?_;refine wpN_sp _ rfl (by kernel_rfl) (spAt_val (f:=52) (args:= #[.int .i64 (body.size:Int)]) (by intro w0;go_simp) (fun p _=>kst _)) ?_;simp only[Act.put,List.setIfInBounds_toArray,List.set_cons_zero,List.set_cons_succ];rw[hv3];refine Go.Proofs.YtibjkhepedfpiaaDoor.Rg.wpN_take 2 (by kernel_rfl) (by kernel_rfl) (by kernel_rfl) ?_;simp only[List.take_succ_cons,List.take_zero,List.drop_succ_cons,List.drop_zero]
    repeat (go_big_quiet_step (fail))
    refine wpQuiet_nil ?_;refine Go.Proofs.YtibjkhepedfpiaaDoor.Rg.wpN_sp _ rfl (by kernel_rfl) (spAt_newS 2 9 #[.string ST,.string body] (Nat.le_refl _) (by intro w0;go_simp)) ?_;simp only[Act.put,List.setIfInBounds_toArray,List.set_cons_zero,List.set_cons_succ];refine Go.Proofs.YtibjkhepedfpiaaDoor.Rg.wpN_nil ?_;rintro w9 ⟨pz,rfl⟩ hpz9;obtain⟨g9,hg9,hge,hb9⟩:=hpz9 6 _ rfl;rw[hg9];have hOx:=hI.out.1.other (only_of_below (below_ext wr pz) none) (by simp) (fun r e=>by cases e);have hz9:=(below_ext wr pz).size
    have kt:=otext_list g (g+1) v' (fbits FL) [ST,body] (ext wr pz) g9 2 rfl (by decide) (by omega) hb9.lt hOx (fun k s hk=>by
     match k,hk with
     |0,hk=>(injection hk with hk;rw[←hk];exact Blk.cell hb9 0 rfl)
     |1,hk=>(injection hk with hk;rw[←hk];exact Blk.cell hb9 1 rfl)
     |_+2,hk=>simp at hk) (fun r e=>by have:=(hrow r e).2;omega) (fun k s hk=>by
     have h1:=HST.out;have h2:=HBZ.out
     match k,hk with
     |0,hk=>(injection hk with hk;rw[←hk];simp;omega)
     |1,hk=>(injection hk with hk;rw[←hk];simp[bl_len];omega)
     |_+2,hk=>simp at hk)
    have HG:=Lib.hid (hI.out.2.other (only_of_below (below_ext wr pz) none) (fun r e=>by cases e));clear hI hOx hb9 hrow hpz9 hg9 hσ hv3 kst
    go_wp2_with fail
    (with_reducible refine(kt).mono ?_);rintro e1 W3 ⟨rfl,v3,hO3,hG3⟩
    have ks:=ostring_any g (g+1) v3 _ W3 hO3;rw[←HX.out]at ks
    have hbe:Below w.heap.size w W3:=by
     have h1:=HB3.out.be;have h2:=HG.out.trans hG3;exact h1.trans (h2.below (by omega) (fun r e=>by simp[Value.ownBlock]at e) h1.size)
    clear kt hO3 hG3 c4 HG
    go_wp2_with fail
    (with_reducible refine(ks).mono ?_);rintro e1 W4 ⟨rfl,rfl⟩
    go_wp2_with fail
    go_ret2
    exact⟨rfl,hbe⟩
 ·have k1:=fun V=>check_any pid count start body V hp hc (by omega)
  have HX:=Lib.hid (show str (pkB pid start count (bl body))=str (pk (fbits (flds pid start count 3)++bitsL (([str (stf body.size),body].map bl).flatten)))from by
   rw[front_bits _ _ _ _ _ hp hc (by decide)];unfold pkB;simp[bl_str,stf,bl_len,hb])
  have kst: ∀V,Calls Tryd.prog 52 #[.int .i64 (body.size:Int)] V fun e w'=>e= .returned (.string (str (stf body.size)))∧Below V.heap.size V w':=fun V=>(stuffed_any body.size V (by omega)).mono (fun _ _ h=>⟨h.1,h.2▸Below.refl _ _⟩);have HST:=Lib.hid (show(str (stf body.size)).size≤1 from by unfold stf;split<;>simp[str_size]);have hB0:=bk1 w 92 #[.int .i64 (pid:Int),.bool start,.int .i64 (count:Int),.bool false,.string body];have kt: ∀V,Calls Tryd.prog 49 #[.bool true] V fun e w'=>e= .returned (.int .i64 1)∧V=w':=fun V=>flag_any true V;have kz: ∀V,Calls Tryd.prog 49 #[.bool true] V fun e w'=>e= .returned (.int .i64 1)∧V=w':=fun V=>flag_any true V;have hor:bits BinOp.or IntKind.i64 1 2=3:=by rfl
  have kf: ∀V,Calls Tryd.prog 49 #[.bool false] V fun e w'=>e= .returned (.int .i64 0)∧V=w':=fun V=>flag_any false V;have ks:=fun V=>flag_any start V;have hS:=nb_le start;have HFX:=Lib.hid (fbits_len pid count 3 start);have t2:decide ((body.size:Int)<184)=true:=by rw[hb];decide
  have t2':decide (body.size<184)=true:=by rw[hb];decide
  have t3:(body.toList==[])=false:=by
   refine beq_eq_false_iff_ne.2 (fun e=>?_);have h9:body.data.toList.length=0:=by rw[←ByteArray.toList_eq,e];rfl
   rw[Array.length_toList]at h9;have h10:body.size=0:=h9;omega
  have HFL:=Lib.hid (show flds pid start count 3=[(71,8),(0,1),(nb start,1),(0,1),(pid,13),(0,2),(3,2),(count,4)]from rfl);obtain⟨FL,hFL⟩: ∃FL,flds pid start count 3=FL:=⟨_,rfl⟩;rw[hFL]at HFL HX HFX;obtain⟨S,hSe⟩: ∃S,nb start=S:=⟨_,rfl⟩;rw[hSe]at ks hS HFL;have HI:=Lib.hid (fun k=>idx_fl pid S count 3 k 3 rfl);have HLE:=Lib.hid (fun k f hf=>fl_le (P:=pid) (S:=S) (N:=count) (W:=3) (k:=k) (f:=f) hf ⟨by omega,by omega,by omega,by omega⟩);obtain⟨X,hX⟩: ∃X,str (pkB pid start count (bl body))=X:=⟨_,rfl⟩;obtain⟨ST,hST⟩: ∃ST,str (stf body.size)=ST:=⟨_,rfl⟩;rw[hX]at HX ⊢;rw[hST]at HX kst HST;have HB:=Lib.hid hB0;have HWD:=Lib.hid hW;have HBZ:=Lib.hid (show body.size≤184 from by omega);have hpz:(pid:Int)<8192:=by omega
  have hcz:(count:Int)<16:=by omega
  clear hX hST hSe hFL hB0 hb hp hc hW
  go_enter Tryd.func36,Tryd.ntmps36
  go_wp2_with fail
  (with_reducible refine(k1 _).mono ?_);rintro e1 W1 ⟨rfl,hb1⟩
  have HB1:=Lib.hid (HB.out.below hb1);clear k1 HB hb1;have c0:=fun pX=>Blk.cell (blk_ext (HB1.out.nth 0 rfl) pX) 0 (v:= .int .i64 (pid:Int)) rfl;have c1:=fun pX=>Blk.cell (blk_ext (HB1.out.nth 0 rfl) pX) 1 (v:= .bool start) rfl;have c2:=fun pX=>Blk.cell (blk_ext (HB1.out.nth 0 rfl) pX) 2 (v:= .int .i64 (count:Int)) rfl;have c3:=fun pX=>Blk.cell (blk_ext (HB1.out.nth 0 rfl) pX) 3 (v:= .bool false) rfl;have c4:=fun pX=>Blk.cell (blk_ext (HB1.out.nth 0 rfl) pX) 4 (v:= .string body) rfl
  go_wp2_with fail
  refine Go.Proofs.YtibjkhepedfpiaaDoor.Q.region_ext (by kernel_rfl) (by kernel_rfl) ?_
  repeat (go_big_quiet_step ((first|(go_at_call 49;refine ext_call_same (kt _))|(go_at_call 49;refine ext_call_same (kz _)))))
  refine wpQuiet_nil ?_;rintro w9 ⟨pq,rfl⟩;have HB2:=Lib.hid ((HB1.out.px pq).new 109 #[.slice none 0 0,.int .i64 0]);have hgw:=(HB1.out.px pq).size;clear c0 c1 c2 c3 c4;have c0:=fun pX=>Blk.cell (blk_ext (HB2.out.nth 1 rfl) pX) 0 (v:= .int .i64 (pid:Int)) rfl;have c1:=fun pX=>Blk.cell (blk_ext (HB2.out.nth 1 rfl) pX) 1 (v:= .bool start) rfl;have c2:=fun pX=>Blk.cell (blk_ext (HB2.out.nth 1 rfl) pX) 2 (v:= .int .i64 (count:Int)) rfl;have c3:=fun pX=>Blk.cell (blk_ext (HB2.out.nth 1 rfl) pX) 3 (v:= .bool false) rfl;have c4:=fun pX=>Blk.cell (blk_ext (HB2.out.nth 1 rfl) pX) 4 (v:= .string body) rfl
  go_wp2_with fail
  refine Go.Proofs.YtibjkhepedfpiaaDoor.Q.region_ext (by kernel_rfl) (by kernel_rfl) ?_
  repeat (go_big_quiet_step ((first|(go_at_call 49;refine ext_call_same (kf _))|(go_at_call 49;refine ext_call_same (ks _)))))
  refine wpQuiet_nil ?_;rintro w9 ⟨pr,rfl⟩;have HB3:=Lib.hid (HB2.out.px pr);have hg1w:w.heap.size<(ext W1 pq).heap.size:=(HB1.out.px pq).lt 0 rfl;obtain⟨g,hg⟩: ∃g,(ext W1 pq).heap.size=g:=⟨_,rfl⟩;rw[hg]at HB3 hgw hg1w ⊢;obtain⟨W0,hW0⟩: ∃W0,ext ((ext W1 pq).alloc (.cells #[.slice none 0 0,.int .i64 0] 109)) pr=W0:=⟨_,rfl⟩;rw[hW0]at HB3 ⊢;have hg1:g+1≤W0.heap.size:=HB3.out.lt 0 rfl;have HO0:=Lib.hid (show OutV W0 g (g+1) (.slice none 0 0) (fbits (FL.take 0))from⟨HB3.out.nth 0 rfl,by rw[show fbits (FL.take 0)=[] by simp[fbits],show pk []=[]from rfl];exact World.ownsRow_nil _ _ _ _,by omega,hg1⟩);have HW0:=Lib.hid (HWD.out.be HB3.out.be);have hGw:0<w.heap.size:=HWD.out.lt;clear c0 c1 c2 c3 c4 kt kz kf ks hW0 HB2 HB1 hg
  go_wp2_with fail
  go_loopw [38] (fun i wr=> ∃(k:Nat) (v':Value),k≤8∧i= .int .i64 k∧Hid (OutV wr g (g+1) v' (fbits (FL.take k))∧Grow g (.slice none 0 0) W0 v' wr)) (fun i _=>8-(intOf i).toNat)
  case atStart=>exact⟨0,_,by omega,rfl,Lib.hid ⟨HO0.out,Grow.refl _ _ _⟩⟩
  case round=>
   obtain⟨k,v',hk,rfl,hI⟩:=hrel;by_cases hk11:k<8
   ·have t1:decide ((k:Int)<8)=true:=by simp;omega
    obtain⟨f,hf⟩: ∃f,FL[k]? =some f:=⟨_,List.getElem?_eq_getElem (by rw[HFL.out];exact hk11)⟩;have HS:=Lib.hid (fbits_snoc hf);have hlen:=HFX.out k;rw[HFL.out]at hf;have ix:=fun V=>(HI.out k f hf V).1;have hwd:=(HI.out k f hf wr).2;obtain⟨l1,l2⟩:=HLE.out k f hf;obtain⟨x,y⟩:=f;dsimp only at ix hwd l1 l2 HS;have cw:wr.cell? ⟨0,k,none⟩=some (.int .i64 (y:Int)):=(World.cell?_of_block (a:=⟨0,k,none⟩) (hI.out.2.block 0 (by omega) (by omega) (by simp[Value.ownBlock]))).trans (HW0.out.c k y hwd);have kp:=put_any g (g+1) v' (fbits (FL.take k)) x y wr hI.out.1 (by omega) (by omega) (by omega);have q1:IntKind.u64.wrap (x:Int)=(x:Int):=by simp[IntKind.wrap,IntKind.bits,IntKind.signed];omega
    have HG:=Lib.hid hI.out.2;have k0:(0:Int)≤(k:Int):=Int.natCast_nonneg _;have k8:(k:Int)<8:=by omega
    clear hlen hf hI hwd
    go_wp2_with fail
    (with_reducible refine(kp).mono ?_);rintro e1 W2 ⟨rfl,v2,hO2,hG2⟩
    have HI2:=Lib.hid (show OutV W2 g (g+1) v2 (fbits (FL.take (k+1)))∧Grow g (.slice none 0 0) W0 v2 W2 from⟨by rw[HS.out];exact hO2,HG.out.trans hG2⟩);clear kp hO2 hG2 ix HG HS
    go_wp2_with fail
    go_roundw
    case rel=>exact⟨k+1,v2,by omega,by go_num,HI2⟩
    case measure=>simp[intOf];omega
   ·obtain rfl:k=8:=by omega
    have t1:decide (((8:Nat):Int)<8)=false:=by decide
    rw[show FL.take 8=FL by rw[List.take_of_length_le (by rw[HFL.out];exact Nat.le_refl 8)]]at hI
    have hbx:Blk wr w.heap.size 92 #[.int .i64 (pid:Int),.bool start,.int .i64 (count:Int),.bool false,.string body]:=
     (hI.out.2.block _ (by omega) (by omega) (by simp[Value.ownBlock])).trans (HB3.out.nth 1 rfl)
    have c4:=fun pX=>Blk.cell (blk_ext hbx pX) 4 (v:= .string body) rfl;have hwr:=hI.out.1.bw;have hrow:=hI.out.1.row;have hlF:(fbits FL).length≤1000:=by have:=HFX.out 8;rwa [List.take_of_length_le (by rw[HFL.out];exact Nat.le_refl 8)]at this
    clear hbx HI HLE
    go_wp2_with fail
    refine Go.Proofs.YtibjkhepedfpiaaDoor.Rg.region_new [(3,val (.string ST)),(6,newS 2 9 #[.string ST,.string body] wr.heap.size)] 7 (by kernel_rfl) (by kernel_rfl) (by kernel_rfl) (lk_cons val_inh (lk_cons newS_inh lk_nil)) (lk_cons val_mono (lk_cons newS_mono lk_nil)) ?_;intro σ hσ;simp only[List.take_succ_cons,List.take_zero,List.drop_succ_cons,List.drop_zero];have hv3:σ 3= .string ST:=hσ 3 _ rfl;refine Go.Proofs.YtibjkhepedfpiaaDoor.Rg.wpN_take 3 (by kernel_rfl) (by kernel_rfl) (by kernel_rfl) ?_;simp only[List.take_succ_cons,List.take_zero,List.drop_succ_cons,List.drop_zero]
    repeat (go_big_quiet_step (fail))
    refine wpQuiet_nil ?_;refine wpN_sp _ rfl (by kernel_rfl) (spAt_val (f:=52) (args:= #[.int .i64 (body.size:Int)]) (by intro w0;go_simp) (fun p _=>kst _)) ?_;simp only[Act.put,List.setIfInBounds_toArray,List.set_cons_zero,List.set_cons_succ];rw[hv3];refine Go.Proofs.YtibjkhepedfpiaaDoor.Rg.wpN_take 2 (by kernel_rfl) (by kernel_rfl) (by kernel_rfl) ?_;simp only[List.take_succ_cons,List.take_zero,List.drop_succ_cons,List.drop_zero]
    repeat (go_big_quiet_step (fail))
    refine wpQuiet_nil ?_;refine Go.Proofs.YtibjkhepedfpiaaDoor.Rg.wpN_sp _ rfl (by kernel_rfl) (spAt_newS 2 9 #[.string ST,.string body] (Nat.le_refl _) (by intro w0;go_simp)) ?_;simp only[Act.put,List.setIfInBounds_toArray,List.set_cons_zero,List.set_cons_succ];refine Go.Proofs.YtibjkhepedfpiaaDoor.Rg.wpN_nil ?_;rintro w9 ⟨pz,rfl⟩ hpz9;obtain⟨g9,hg9,hge,hb9⟩:=hpz9 6 _ rfl;rw[hg9];have hOx:=hI.out.1.other (only_of_below (below_ext wr pz) none) (by simp) (fun r e=>by cases e);have hz9:=(below_ext wr pz).size
    have kt:=otext_list g (g+1) v' (fbits FL) [ST,body] (ext wr pz) g9 2 rfl (by decide) (by omega) hb9.lt hOx (fun k s hk=>by
     match k,hk with
     |0,hk=>(injection hk with hk;rw[←hk];exact Blk.cell hb9 0 rfl)
     |1,hk=>(injection hk with hk;rw[←hk];exact Blk.cell hb9 1 rfl)
     |_+2,hk=>simp at hk) (fun r e=>by have:=(hrow r e).2;omega) (fun k s hk=>by
     have h1:=HST.out;have h2:=HBZ.out
     match k,hk with
     |0,hk=>(injection hk with hk;rw[←hk];simp;omega)
     |1,hk=>(injection hk with hk;rw[←hk];simp[bl_len];omega)
     |_+2,hk=>simp at hk)
    have HG:=Lib.hid (hI.out.2.other (only_of_below (below_ext wr pz) none) (fun r e=>by cases e));clear hI hOx hb9 hrow hpz9 hg9 hσ hv3 kst
    go_wp2_with fail
    (with_reducible refine(kt).mono ?_);rintro e1 W3 ⟨rfl,v3,hO3,hG3⟩
    have ks:=ostring_any g (g+1) v3 _ W3 hO3;rw[←HX.out]at ks
    have hbe:Below w.heap.size w W3:=by
     have h1:=HB3.out.be;have h2:=HG.out.trans hG3;exact h1.trans (h2.below (by omega) (fun r e=>by simp[Value.ownBlock]at e) h1.size)
    clear kt hO3 hG3 c4 HG
    go_wp2_with fail
    (with_reducible refine(ks).mono ?_);rintro e1 W4 ⟨rfl,rfl⟩
    go_wp2_with fail
    go_ret2
    exact⟨rfl,hbe⟩
end Go.Proofs.YtibjkhepedfpiaaDoor.PkE
