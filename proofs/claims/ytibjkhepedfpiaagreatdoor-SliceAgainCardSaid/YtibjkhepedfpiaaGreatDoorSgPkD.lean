import Derived.Laws.FloatArith
import Derived.Laws.ComplexArith
import Derived.Laws.Cover3
import Derived.WalkLawsBesides
import Derived.Test.YtibjkhepedfpiaaGreatDoorSgPkS
namespace Go.Proofs.YtibjkhepedfpiaaGreatDoor.DgP
open Go St BiH
def dh (s:ByteArray):Nat→Nat
 |0=>0
 |i+1=>dh s i+if i%2=0 then at0 s i else 0
def dl (s:ByteArray):Nat→Nat
 |0=>0
 |i+1=>dl s i+if i%2=0 then 0 else at0 s i
theorem d_le (s:ByteArray) (i:Nat):dh s i≤255*i∧dl s i≤255*i:=by
 induction i with
 |zero=>simp[dh,dl]
 |succ i ih=>
  have:=at0_lt s i;unfold dh dl
  split<;>omega
def r15 (n:Nat):Nat:=if n=0 then 0 else(n-1)%65535+1
theorem r15_le (n:Nat):r15 n≤65535:=by unfold r15;split<;>omega
theorem r15_small {n:Nat} (h:n≤65535):r15 n=n:=by unfold r15;split<;>omega
theorem r15_fold {n:Nat} (h:65535<n):r15 (n/65536+n%65536)=r15 n∧n/65536+n%65536<n:=by
 unfold r15;rw[if_neg (by omega),if_neg (by omega)];omega
theorem r15_add (n x:Nat) (hx:x≤65535):r15 (n+x)=if 65535<r15 n+x then r15 n+x-65535 else r15 n+x:=by
 unfold r15;by_cases h:n=0
 ·subst h
  by_cases h2:x=0
  ·subst h2;simp
  ·rw[if_neg (by omega),if_pos rfl,if_neg (by omega)];omega
 ·rw[if_neg (by omega),if_neg h]
  split<;>omega
def dsum (s:ByteArray):Nat:=65535-r15 (256*dh s s.size+dl s s.size)
theorem dsum_le (s:ByteArray):dsum s≤65535:=by unfold dsum;omega
theorem d_even (s:ByteArray) (k:Nat):256*dh s (2*k+1)+dl s (2*k+1)=(256*dh s (2*k)+dl s (2*k))+256*at0 s (2*k):=by
 rw[dh,dl,if_pos (by omega),if_pos (by omega)];omega
theorem d_odd (s:ByteArray) (k:Nat):256*dh s (2*k+2)+dl s (2*k+2)=(256*dh s (2*k)+dl s (2*k))+(256*at0 s (2*k)+at0 s (2*k+1)):=by
 rw[show 2*k+2=(2*k+1)+1 by omega,dh,dl,if_neg (by omega),if_neg (by omega),dh,dl,if_pos (by omega),if_pos (by omega)];omega
end Go.Proofs.YtibjkhepedfpiaaGreatDoor.DgP
namespace Go.Proofs.YtibjkhepedfpiaaGreatDoor.Fl
open Go Ieee
def fl (n:Nat):Nat:=Format.nearest double false n 0
theorem cut_exact (way:Toward) (neg:Bool) (n d:Nat) (h:n=0∨d≤(n*2^d).log2+2):Toward.cut way neg (n*2^d) d=n:=by
 have key: ∀g,0<g→(n*2^d)/g=n→(n*2^d)%g=0→1<<<min d ((n*2^d).log2+2)=g→Toward.cut way neg (n*2^d) d=n:=by
  intro g hg h1 h2 h3;unfold Toward.cut;dsimp only;rw[h3,h1,h2]
  cases way<;>simp
  omega
 rcases h with rfl|h
 ·refine key (1<<<min d ((0*2^d).log2+2)) ?_ (by simp) (by simp) rfl
  rw[Nat.shiftLeft_eq,Nat.one_mul];exact Nat.pow_pos (by decide)
 ·refine key (2^d) (Nat.pow_pos (by decide)) (Nat.mul_div_cancel _ (Nat.pow_pos (by decide))) (Nat.mul_mod_left _ _) ?_
  rw[Nat.min_eq_left h,Nat.shiftLeft_eq,Nat.one_mul]
theorem log_mul (n k:Nat) (h:n≠0):(n*2^k).log2=n.log2+k:=by
 have h1:n*2^k≠0:=Nat.mul_ne_zero h (Nat.ne_of_gt (Nat.pow_pos (by decide)));rw[Nat.log2_eq_iff h1];have h2:=Nat.log2_self_le h;have h3:= @Nat.lt_log2_self n;refine⟨?_,?_⟩
 ·rw[Nat.pow_add];exact Nat.mul_le_mul_right _ h2
 ·rw[show n.log2+k+1=(n.log2+1)+k by omega,Nat.pow_add]
  exact Nat.mul_lt_mul_of_pos_right h3 (Nat.pow_pos (by decide))
theorem log_lt {n:Nat} (h:n<9007199254740992):n.log2≤52:=by
 by_cases h0:n=0
 ·subst h0;decide
 ·have:n.log2<53:=(Nat.log2_lt h0).2 (by omega)
  omega
theorem sig_bounds {n:Nat} (h0:n≠0) (h:n<9007199254740992):4503599627370496≤n*2^(52-n.log2)∧n*2^(52-n.log2)<9007199254740992:=by
 have hl:=log_lt h;have h2:=Nat.log2_self_le h0;have h3:= @Nat.lt_log2_self n;have e1:2^n.log2*2^(52-n.log2)=4503599627370496:=by rw[←Nat.pow_add,show n.log2+(52-n.log2)=52 by omega]
 have e2:2^(n.log2+1)*2^(52-n.log2)=9007199254740992:=by rw[←Nat.pow_add,show n.log2+1+(52-n.log2)=53 by omega]
 refine⟨?_,?_⟩
 ·rw[←e1];exact Nat.mul_le_mul_right _ h2
 ·rw[←e2];exact Nat.mul_lt_mul_of_pos_right h3 (Nat.pow_pos (by decide))
theorem least:Format.leastPlace double= -1074:=by decide
theorem binade:Format.binade double=4503599627370496:=by decide
theorem inf:Format.infRung double=9218868437227405312:=by decide
theorem sw:Format.signWeight double=9223372036854775808:=by decide
def W (n:Nat):Nat:=(n.log2+1022)*4503599627370496+n*2^(52-n.log2)
theorem nearest_W {n:Nat} (k:Nat) (h0:n≠0) (h:n<9007199254740992):Format.nearest double false (n*2^k) (-(k:Int))=W n:=by
 have hl:=log_lt h;obtain⟨m1,m2⟩:=sig_bounds h0 h;have hne:n*2^k≠0:=Nat.mul_ne_zero h0 (Nat.ne_of_gt (Nat.pow_pos (by decide)))
 have hkept:Toward.even.cut false ((n*2^k)<<<(52-n.log2-k)) (n.log2+k-52)=n*2^(52-n.log2):=by
  rw[Nat.shiftLeft_eq];by_cases hk:n.log2+k≤52
  ·rw[show n.log2+k-52=0 by omega,Nat.mul_assoc,←Nat.pow_add,show k+(52-n.log2-k)=52-n.log2 by omega]
   have:=cut_exact .even false (n*2^(52-n.log2)) 0 (Or.inr (by omega));simpa using this
  ·rw[show 52-n.log2-k=0 by omega,Nat.pow_zero,Nat.mul_one]
   have e:n*2^k=n*2^(52-n.log2)*2^(n.log2+k-52):=by rw[Nat.mul_assoc,←Nat.pow_add,show 52-n.log2+(n.log2+k-52)=k by omega]
   rw[e];refine cut_exact .even false _ _ (Or.inr ?_);rw[←e,log_mul n k h0];omega
 unfold Format.nearest;rw[if_neg hne,log_mul n k h0,least,binade,inf];dsimp only
 have e1:max (-(k:Int)+((n.log2+k:Nat):Int)-(double.fractionBits:Int)) (-1074)=(n.log2:Int)-52:=by
  rw[show double.fractionBits=52 from rfl];omega
 rw[e1,show((-(k:Int))-((n.log2:Int)-52)).toNat=52-n.log2-k by omega,show(((n.log2:Int)-52)-(-(k:Int))).toNat=n.log2+k-52 by omega,hkept,show(((n.log2:Int)-52)-(-1074)).toNat=n.log2+1022 by omega];unfold Format.word;rw[if_neg (by decide),Nat.min_eq_left]
 ·rfl
 ·omega
theorem fl_W {n:Nat} (h0:n≠0) (h:n<9007199254740992):fl n=W n:=by
 have:=nearest_W 0 h0 h;simpa [fl]using this
theorem fl_zero:fl 0=0:=by decide
theorem near (n k:Nat) (h:n<9007199254740992):Format.nearest double false (n*2^k) (-(k:Int))=fl n:=by
 by_cases h0:n=0
 ·subst h0
  rw[fl_zero];unfold Format.nearest;simp[Format.word]
 ·rw[nearest_W k h0 h,fl_W h0 h]
theorem read_fl (n:Nat) (h:n<9007199254740992): ∃k:Nat,(n=0∨k≤52)∧Format.read double (fl n)= .number false (n*2^k) (-(k:Int)):=by
 by_cases h0:n=0
 ·subst h0
  obtain⟨K,hK⟩: ∃K:Nat,K=1074:=⟨_,rfl⟩;refine⟨K,Or.inl rfl,?_⟩;rw[fl_zero,Nat.zero_mul,hK];decide
 ·refine⟨52-n.log2,Or.inr (by omega),?_⟩
  have hl:=log_lt h;obtain⟨m1,m2⟩:=sig_bounds h0 h;rw[fl_W h0 h];unfold W;obtain⟨m,hm⟩: ∃m,n*2^(52-n.log2)=m:=⟨_,rfl⟩;rw[hm]at m1 m2 ⊢;obtain⟨L,hL⟩: ∃L,n.log2=L:=⟨_,rfl⟩;rw[hL]at hl ⊢;unfold Format.read;rw[sw,binade,inf,least];dsimp only;have e0:((L+1022)*4503599627370496+m)/9223372036854775808%2=0:=by omega
  have e1:((L+1022)*4503599627370496+m)%9223372036854775808=(L+1022)*4503599627370496+m:=by omega
  rw[e0,e1,if_neg (by omega),if_pos (by omega)];have e2:((L+1022)*4503599627370496+m)%4503599627370496=m-4503599627370496:=by omega
  have e3:((L+1022)*4503599627370496+m)/4503599627370496=L+1023:=by omega
  rw[e2,e3,show 4503599627370496+(m-4503599627370496)=m by omega,show(-1074:Int)+((L+1023-1:Nat):Int)= -((52-L:Nat):Int) by omega];rfl
theorem add_fl (a b:Nat) (h:a+b<9007199254740992):Format.add double (fl a) (fl b)=some (fl (a+b)):=by
 obtain⟨i,_,hi⟩:=read_fl a (by omega);obtain⟨j,_,hj⟩:=read_fl b (by omega);unfold Format.add;rw[hi,hj];unfold Datum.sum;dsimp only;obtain⟨k,hk⟩: ∃k:Nat,max i j=k:=⟨_,rfl⟩;have hb:min (-(i:Int)) (-(j:Int))= -(k:Int):=by omega
 rw[hb];have hik:i≤k:=by omega
 have hjk:j≤k:=by omega
 have e1:(-(i:Int)- -(k:Int)).toNat=k-i:=by omega
 have e2:(-(j:Int)- -(k:Int)).toNat=k-j:=by omega
 have s1:signed false (a*2^i) (k-i)=((a*2^k:Nat):Int):=by
  unfold signed;rw[if_neg (by decide),Nat.shiftLeft_eq,Nat.mul_assoc,←Nat.pow_add,show i+(k-i)=k by omega]
 have s2:signed false (b*2^j) (k-j)=((b*2^k:Nat):Int):=by
  unfold signed;rw[if_neg (by decide),Nat.shiftLeft_eq,Nat.mul_assoc,←Nat.pow_add,show j+(k-j)=k by omega]
 rw[e1,e2,s1,s2];have e3:((a*2^k:Nat):Int)+((b*2^k:Nat):Int)=(((a+b)*2^k:Nat):Int):=by rw[Nat.add_mul];omega
 rw[e3]
 have e4:(if(((a+b)*2^k:Nat):Int)=0 then false&&false else decide ((((a+b)*2^k:Nat):Int)<0))=false:=by
  split
  ·rfl
  ·exact decide_eq_false (Int.not_lt.2 (Int.natCast_nonneg _))
 rw[e4,Int.natAbs_natCast];show some (Format.nearest double false ((a+b)*2^k) (-(k:Int)))=_;rw[near _ _ h]
theorem toInt_fl (n:Nat) (h:n<9007199254740992):(Format.read double (fl n)).toInt .zero=some (n:Int):=by
 obtain⟨k,hk,hr⟩:=read_fl n h;rw[hr];unfold Datum.toInt Datum.integral;dsimp only;rw[show(-(k:Int)).toNat=0 by omega,show(-(-(k:Int))).toNat=k by omega,Nat.shiftLeft_zero,cut_exact]
 ·simp[signed]
 ·rcases hk with h|h
  ·exact Or.inl h
  ·by_cases h0:n=0
   ·exact Or.inl h0
   ·right;rw[log_mul n k h0];omega
theorem ofInt_fl (n:Nat):floatOfInt .f64 (n:Int)=fl n:=by
 show Format.nearest double (decide ((n:Int)<0)) (n:Int).natAbs 0=_;rw[Int.natAbs_natCast,decide_eq_false (by omega)];rfl
theorem bits_add (a b:Nat) (h:a+b<9007199254740992):floatBits .add .f64 (fl a) (fl b)=some (fl (a+b)):=add_fl a b h
theorem intVal_fl (n:Nat) (h:n<9007199254740992):floatToIntVal .f64 (fl n) .i64=some (n:Int):=by
 unfold floatToIntVal;rw[show(FloatKind.f64.decode (fl n)).toInt .zero=some (n:Int)from toInt_fl n h];dsimp only;rw[if_pos];refine⟨?_,?_⟩
 ·show(-9223372036854775808:Int)≤_
  omega
 ·show _≤(9223372036854775807:Int)
  omega
section
variable {P:Program} (w:World)
theorem run_csum (t:TypeId) (a b c d:Nat) (h1:a+c<9007199254740992) (h2:b+d<9007199254740992):(binOp .add t (.complex .f64 (fl a) (fl b)) (.complex .f64 (fl c) (fl d))).run P w= .ok (.complex .f64 (fl (a+c)) (fl (b+d))) w:=by
 refine run_complex_sum w .add (Or.inl rfl) t .f64 _ _ _ _ _ _ ?_;unfold cSumBits;rw[bits_add _ _ h1,bits_add _ _ h2];rfl
theorem run_cint (src dst:TypeId) (n:Nat) (hs:(P.underlying src).isSome=true) (hd:P.underlying dst=some (.int .i64)) (h:n<9007199254740992):(convert src dst (.float .f64 (fl n))).run P w= .ok (.int .i64 (n:Int)) w:=
 run_convert_float_int w src dst .f64 .i64 (fl n) n hs hd (intVal_fl n h)
end
end Go.Proofs.YtibjkhepedfpiaaGreatDoor.Fl
namespace Go.Proofs.YtibjkhepedfpiaaGreatDoor.DgA
open Go Go.RowKit Q Mem Rg St BiH DgP Fl Scp
set_option maxRecDepth 100000
theorem join_one (g o c:Nat) (s:ByteArray) (w:World) (h:w.cell? ⟨g,o,none⟩=some (.string s)):Calls Tryz.prog 147 #[.slice (some ⟨g,o,none⟩) 1 c,.string nob] w fun e w'=>e= .returned (.string s)∧w=w':=by
 go_enter Tryz.func147,Tryz.ntmps147
 go_wp2_with fail
 go_ret;exact⟨rfl,rfl⟩
def tm (a:Act) (k:Nat):Value:=a.tmps.getD k undef
def num (v:Value):Nat:=match v with| .int _ i=>i.toNat|_=>0
def frA (g o c:Nat) (s:ByteArray) (v4 v5 v7:Value) (u:Nat→Value):Act:={tmps:= #[.slice (some ⟨g,o,none⟩) 1 c,u 1,.int .i64 0,.string s,v4,v5,u 6,v7,u 8,u 9,u 10,u 11,u 12,u 13,u 14,u 15,u 16,u 17,u 18,u 19,u 20,u 21,u 22,u 23,u 24,u 25,u 26,u 27,u 28,u 29,u 30,u 31,u 32,u 33,u 34,u 35,u 36,u 37,u 38,u 39,u 40,u 41,u 42,u 43,u 44,u 45,u 46,u 47],defers:=[]}
def J0 (g o c:Nat) (s:ByteArray) (w:World) (a:Act) (W:World):Prop:= ∃(i:Nat) (u:Nat→Value),a=frA g o c s (.complex .f64 (fl (dh s i)) (fl (dl s i))) (.int .i64 i) (u 7) u∧i≤s.size∧w=W
def J1 (g o c:Nat) (s:ByteArray) (w:World) (a:Act) (W:World):Prop:= ∃(n:Nat) (u:Nat→Value),a=frA g o c s (u 4) (u 5) (.int .i64 n) u∧r15 n=r15 (256*dh s s.size+dl s s.size)∧n≤1152921504606846976∧w=W
theorem j0_intro {g o c:Nat} {s:ByteArray} {w W:World} {a:Act} {i:Nat} (h:a=frA g o c s (.complex .f64 (fl (dh s i)) (fl (dl s i))) (.int .i64 i) (tm a 7) (tm a)) (hi:i≤s.size) (hw:w=W):J0 g o c s w a W:=⟨i,tm a,h,hi,hw⟩
theorem j1_intro {g o c:Nat} {s:ByteArray} {w W:World} {a:Act} {n:Nat} (h:a=frA g o c s (tm a 4) (tm a 5) (.int .i64 n) (tm a)) (h1:r15 n=r15 (256*dh s s.size+dl s s.size)) (h2:n≤1152921504606846976) (hw:w=W):J1 g o c s w a W:=⟨n,tm a,h,h1,h2,hw⟩
theorem and_low (n:Nat) (h:n≤1152921504606846976):bits .and .i64 (n:Int) 65535=(n:Int)%65536:=by
 have h:=bits_mask .i64 63 (by decide) (fun n h0 h1=>by rw[IntKind.wrap_i64];omega) 16 (by decide) (n:Int) (by omega) (by omega);have e:((2:Int)^16-1)=65535:=by decide
 have e2:((2:Int)^16)=65536:=by decide
 rw[e,e2]at h;exact h
set_option maxHeartbeats 800000 in
theorem sum_one (g o c:Nat) (s:ByteArray) (w:World) (h:w.cell? ⟨g,o,none⟩=some (.string s)) (hs:s.size≤1099511627776):Calls Tryz.prog 118 #[.slice (some ⟨g,o,none⟩) 1 c] w fun e w'=>e= .returned (.int .i64 (dsum s:Int))∧w=w':=by
 have kj:=join_one g o c s w h;obtain⟨R,hR⟩: ∃R:Ending→World→Prop,R=(fun e w'=>e= .returned (.int .i64 (dsum s:Int))∧w=w'):=⟨_,rfl⟩;rw[←hR];have HRR:=Lib.hid hR;clear hR
 go_enter Tryz.func118,Tryz.ntmps118
 go_wp2_with fail
 refine wp_scope_two 0 1 (J0 g o c s w) (J1 g o c s w) (fun a _=>s.size-num (tm a 5)) (fun a _=>num (tm a 7)) rfl rfl ?_ ?_ ?_
 ·rintro a W ⟨n,u,rfl,hr,hn,rfl⟩
  unfold frA;clear h kj;by_cases hb:65535<n
  ·have t1:decide (65535<(n:Int))=true:=by simp;omega
   have ha:=and_low n hn;have hn2:(n:Int)≤1152921504606846976:=by omega
   have HF:=Lib.hid (r15_fold hb);have HR:=Lib.hid hr;have HC:=Lib.hid (show(n:Int)/65536+(n:Int)%65536=((n/65536+n%65536:Nat):Int) by omega);clear hb hr
   go_wp2_with fail
   rw[HC.out]
   go_step3
   exact Or.inr ⟨rfl,j1_intro (n:=n/65536+n%65536) (by kernel_rfl) (HF.out.1.trans HR.out) (by omega) rfl,HF.out.2⟩
  ·have t1:decide (65535<(n:Int))=false:=by simp;omega
   have hd:=r15_small (n:=n) (by omega);have HD:=Lib.hid (show((65535-n:Nat):Int)=65535-(n:Int) by omega);have HE:=Lib.hid (show dsum s=65535-n by unfold dsum;rw[←hr,hd])
   go_wp2_with fail
   rw[HRR.out,HE.out,HD.out];exact⟨rfl,rfl⟩
 ·rintro a W ⟨i,u,rfl,hi,rfl⟩ b1
  unfold frA;clear h kj;by_cases hlt:i<s.size
  ·have t1:decide ((i:Int)<(s.size:Int))=true:=by simp;omega
   have hix:=fun V=>idx_at s i hlt V;rw[at0_at]at hix;obtain⟨d1,d2⟩:=d_le s i;have hx:=at0_lt s i;have e1:dh s (i+1)=dh s i+if i%2=0 then at0 s i else 0:=rfl;have e2:dl s (i+1)=dl s i+if i%2=0 then 0 else at0 s i:=rfl;obtain⟨x,hxe⟩: ∃x,at0 s i=x:=⟨_,rfl⟩;rw[hxe]at hix hx e1 e2;have hof:=ofInt_fl x;by_cases hp:i%2=0
   ·rw[if_pos hp]at e1 e2
    have t2:((i:Int)%2==0)=true:=by simp;omega
    have hcs: ∀V,(binOp .add 179 (.complex .f64 (fl (dh s i)) (fl (dl s i))) (.complex .f64 (fl x) 0)).run Tryz.prog V= .ok (.complex .f64 (fl (dh s (i+1))) (fl (dl s (i+1)))) V:=fun V=>by
     have:=run_csum (P:=Tryz.prog) V 179 (dh s i) (dl s i) x 0 (by omega) (by omega);rw[fl_zero]at this;rw[e1,e2];exact this
    clear e1 e2 hp hxe d1 d2
    go_wp2_with fail
    go_step3
    exact Or.inl ⟨rfl,j0_intro (i:=i+1) (by kernel_rfl) (by omega) rfl,by show s.size-(i+1)<s.size-i;omega⟩
   ·rw[if_neg hp]at e1 e2
    have t2:((i:Int)%2==0)=false:=by simp;omega
    have hcs: ∀V,(binOp .add 179 (.complex .f64 (fl (dh s i)) (fl (dl s i))) (.complex .f64 0 (fl x))).run Tryz.prog V= .ok (.complex .f64 (fl (dh s (i+1))) (fl (dl s (i+1)))) V:=fun V=>by
     have:=run_csum (P:=Tryz.prog) V 179 (dh s i) (dl s i) 0 x (by omega) (by omega);rw[fl_zero]at this;rw[e1,e2];exact this
    clear e1 e2 hp hxe d1 d2
    go_wp2_with fail
    go_step3
    exact Or.inl ⟨rfl,j0_intro (i:=i+1) (by kernel_rfl) (by omega) rfl,by show s.size-(i+1)<s.size-i;omega⟩
  ·obtain rfl:i=s.size:=by omega
   have t1:decide ((s.size:Int)<(s.size:Int))=false:=by simp
   obtain⟨d1,d2⟩:=d_le s s.size;have c1: ∀V,(convert 183 3 (.float .f64 (fl (dh s s.size)))).run Tryz.prog V= .ok (.int .i64 (dh s s.size:Int)) V:=fun V=>run_cint V _ _ _ (by kernel_rfl) Tryz.underlying3 (by omega);have c2: ∀V,(convert 183 3 (.float .f64 (fl (dl s s.size)))).run Tryz.prog V= .ok (.int .i64 (dl s s.size:Int)) V:=fun V=>run_cint V _ _ _ (by kernel_rfl) Tryz.underlying3 (by omega);have HC:=Lib.hid (show(dh s s.size:Int)*256+(dl s s.size:Int)=((256*dh s s.size+dl s s.size:Nat):Int) by omega)
   go_wp2_with fail
   rw[HC.out]
   go_step3
   rename_i hK;refine hK _ _ ?_;exact b1 _ _ (j1_intro (n:=256*dh s s.size+dl s s.size) (by kernel_rfl) rfl (by omega) rfl)
 ·intro b0 b1
  go_wp2_with fail
  (with_reducible refine(kj).mono ?_);rintro e1 W1 ⟨rfl,rfl⟩
  go_wp2_with fail
  go_step3
  rename_i hK;refine hK _ _ ?_;exact b0 _ _ (j0_intro (i:=0) (by kernel_rfl) (by omega) rfl)
end Go.Proofs.YtibjkhepedfpiaaGreatDoor.DgA
namespace Go.Proofs.YtibjkhepedfpiaaGreatDoor.DgB
open Go Go.RowKit Q Mem Rg Ap St BiH SeI SeEq DgP DgA
structure Hd where
 ver:Int
 header:Int
 length:Int
 proto:Int
def Hd.vals (h:Hd):Array Value:= #[.int .i64 h.ver,.int .i64 h.header,.int .i64 h.length,.int .i64 h.proto]
def zeroH:Hd:=⟨0,0,0,0⟩
abbrev zh:Array Value:= #[.int .i64 0,.int .i64 0,.int .i64 0,.int .i64 0]
def hd4 (s:ByteArray):Hd:=⟨4,4*((at0 s 0:Int)%16),256*(at0 s 2:Int)+at0 s 3,at0 s 9⟩
def hd6 (s:ByteArray):Hd:=⟨6,40,40+(256*(at0 s 4:Int)+at0 s 5),at0 s 6⟩
def hdE (h:Hd) (least:Int):Int:=if h.header<least∨h.length<h.header then 12 else if 4080<h.length then 15 else 0
def pkE (s:ByteArray):Int:=
 if s.size=0 then 10 else if at0 s 0/16=4 then(if s.size<20 then 10 else hdE (hd4 s) 20)else if at0 s 0/16=6 then(if s.size<40 then 10 else hdE (hd6 s) 40)else 14
def pkH (s:ByteArray):Hd:=if pkE s=0 then(if at0 s 0/16=4 then hd4 s else hd6 s)else zeroH
theorem pk_zero {s:ByteArray} {c:Int} (h:pkE s=c) (hc:c≠0):pkE s=c∧pkH s=zeroH:=⟨h,by unfold pkH;rw[if_neg (by rw[h];exact hc)]⟩
theorem or_pair (a b:Nat) (ha:a<256) (hb:b<256):bits .or .i64 ((a:Int)*256) (b:Int)=256*(a:Int)+b:=by
 have h:=(bits_nat .i64 63 (by decide) (fun n h0 h1=>by rw[IntKind.wrap_i64];omega) (a*256) b (by omega) (by omega)).2;have h2:=Nat.shiftLeft_add_eq_or_of_lt (i:=8) (b:=b) (by omega) a;rw[Nat.shiftLeft_eq]at h2;rw[show((a*256:Nat):Int)=(a:Int)*256 by omega,←h2]at h;rw[h];omega
set_option maxRecDepth 100000
theorem pair_any (s:ByteArray) (i:Nat) (w:World) (h:i+1<s.size) (hs:s.size≤1099511627776):Calls Tryz.prog 163 #[.string s,.int .i64 (i:Int)] w fun e w'=>e= .returned (.int .i64 (256*(at0 s i:Int)+at0 s (i+1)))∧Below w.heap.size w w':=by
 have i0:=fun V=>idx_at s i (by omega) V;have i1:=fun V=>idx_at s (i+1) h V;rw[at0_at]at i0 i1;rw[show((i+1:Nat):Int)=(i:Int)+1 by omega]at i1;have l0:=at0_lt s i;have l1:=at0_lt s (i+1);have ho:=or_pair _ _ l0 l1;obtain⟨x,hx⟩: ∃x,at0 s i=x:=⟨_,rfl⟩;obtain⟨y,hy⟩: ∃y,at0 s (i+1)=y:=⟨_,rfl⟩;rw[hx]at i0 ho l0 ⊢;rw[hy]at i1 ho l1 ⊢;have z0:(x:Int)≤255:=by omega
 have z1:(y:Int)≤255:=by omega
 have zi:(i:Int)≤1099511627776:=by omega
 have HO:=Lib.hid ho;clear hx hy l0 l1 h hs
 go_enter Tryz.func163,Tryz.ntmps163
 go_wp2_with fail
 refine Go.Proofs.YtibjkhepedfpiaaGreatDoor.Q.region_ext (by kernel_rfl) (by kernel_rfl) ?_
 repeat (go_big_quiet_step (fail))
 refine wpQuiet_nil ?_;rintro w9 ⟨pq,rfl⟩;have hE:=below_ext w pq
 go_wp2_with fail
 go_ret;exact⟨rfl,hE⟩
theorem and15 (x:Nat) (h:x<256):bits .and .u8 (x:Int) 15=(x:Int)%16:=by
 have: ∀m,m<256→bits .and .u8 ((m:Nat):Int) 15=(m:Int)%16:=by decide+kernel
 exact this x h
theorem peek4_any (s:ByteArray) (w:World) (h:20≤s.size) (hs:s.size≤1099511627776):Calls Tryz.prog 145 #[.string s] w fun e w'=>e= .returned (.agg (hd4 s).vals)∧Below w.heap.size w w':=by
 have i0: ∀V:World,(Instr.index 9 (.string s) (.int .i64 0)).run Tryz.prog V= .ok (.int .u8 (at0 s 0:Int)) V:=fun V=>idx_at s 0 (by omega) V;have i9: ∀V:World,(Instr.index 9 (.string s) (.int .i64 9)).run Tryz.prog V= .ok (.int .u8 (at0 s 9:Int)) V:=fun V=>idx_at s 9 (by omega) V;have kp: ∀V:World,Calls Tryz.prog 163 #[.string s,.int .i64 2] V fun e w'=>e= .returned (.int .i64 (256*(at0 s 2:Int)+at0 s 3))∧Below V.heap.size V w':=fun V=>pair_any s 2 V (by omega) hs;have l0:=at0_lt s 0;have l9:=at0_lt s 9;have ha:=and15 _ l0;unfold hd4 Hd.vals;dsimp only;obtain⟨x,hx⟩: ∃x,at0 s 0=x:=⟨_,rfl⟩;obtain⟨y,hy⟩: ∃y,at0 s 9=y:=⟨_,rfl⟩;obtain⟨N,hN⟩: ∃N:Int,256*(at0 s 2:Int)+at0 s 3=N:=⟨_,rfl⟩;rw[hx]at i0 ha l0 ⊢;rw[hy]at i9 l9 ⊢;rw[hN]at kp ⊢;have z0:(x:Int)≤255:=by omega
 have z1:(y:Int)≤255:=by omega
 have HB:=Lib.hid (bk1 w 227 zh);clear hx hy hN l0 l9 h hs
 go_enter Tryz.func145,Tryz.ntmps145
 go_wp2_with fail
 refine Go.Proofs.YtibjkhepedfpiaaGreatDoor.Q.region_ext_tail 11 (by kernel_rfl) (by kernel_rfl) ?_;simp only[List.take_succ_cons,List.take_zero,List.drop_succ_cons,List.drop_zero]
 repeat (go_big_quiet_step ((go_at_call 163;exact ext_call (kp _))))
 refine wpQuiet_nil ?_;rintro w9 ⟨pq,rfl⟩;have HB1:=Lib.hid (HB.out.px pq);refine wpList_store_blk (g:=w.heap.size) (T:=227) (cs':= #[.int .i64 4,.int .i64 (4*((x:Int)%16)),.int .i64 N,.int .i64 (y:Int)]) rfl 227 _ _ rfl rfl rfl (HB1.out.nth 0 rfl) (by kernel_rfl) (by kernel_rfl) (by kernel_rfl) (by kernel_rfl) ?_;intro W9 hW9 hg9 hz9;have hVE:=HB1.out.be.trans (below_of_only hg9 HB1.out.be.size (fun k hk=>by injection hk with hk;omega))
 go_wp2_with fail
 exact bodyPost_ret (v:= .agg #[.int .i64 4,.int .i64 (4*((x:Int)%16)),.int .i64 N,.int .i64 (y:Int)]) (results_cell_row rfl _ _ w.heap.size 227 _ (0,0) _ rfl hW9 Tryz.underlying227 rfl (by kernel_rfl)) rfl ⟨by rfl,hVE⟩
theorem peek6_any (s:ByteArray) (w:World) (h:40≤s.size) (hs:s.size≤1099511627776):Calls Tryz.prog 146 #[.string s] w fun e w'=>e= .returned (.agg (hd6 s).vals)∧Below w.heap.size w w':=by
 have i9: ∀V:World,(Instr.index 9 (.string s) (.int .i64 6)).run Tryz.prog V= .ok (.int .u8 (at0 s 6:Int)) V:=fun V=>idx_at s 6 (by omega) V;have kp: ∀V:World,Calls Tryz.prog 163 #[.string s,.int .i64 4] V fun e w'=>e= .returned (.int .i64 (256*(at0 s 4:Int)+at0 s 5))∧Below V.heap.size V w':=fun V=>pair_any s 4 V (by omega) hs;have l9:=at0_lt s 6;have l4:=at0_lt s 4;have l5:=at0_lt s 5;unfold hd6 Hd.vals;dsimp only;obtain⟨y,hy⟩: ∃y,at0 s 6=y:=⟨_,rfl⟩;have n0:0≤256*(at0 s 4:Int)+at0 s 5:=by omega
 have n1:256*(at0 s 4:Int)+at0 s 5≤65535:=by omega
 obtain⟨N,hN⟩: ∃N:Int,256*(at0 s 4:Int)+at0 s 5=N:=⟨_,rfl⟩;rw[hy]at i9 l9 ⊢;rw[hN]at kp n0 n1 ⊢;have z1:(y:Int)≤255:=by omega
 have HB:=Lib.hid (bk1 w 227 zh);clear hy hN l4 l5 l9 h hs
 go_enter Tryz.func146,Tryz.ntmps146
 go_wp2_with fail
 refine Go.Proofs.YtibjkhepedfpiaaGreatDoor.Q.region_ext_tail 7 (by kernel_rfl) (by kernel_rfl) ?_;simp only[List.take_succ_cons,List.take_zero,List.drop_succ_cons,List.drop_zero]
 repeat (go_big_quiet_step ((go_at_call 163;exact ext_call (kp _))))
 refine wpQuiet_nil ?_;rintro w9 ⟨pq,rfl⟩;have HB1:=Lib.hid (HB.out.px pq);refine wpList_store_blk (g:=w.heap.size) (T:=227) (cs':= #[.int .i64 6,.int .i64 40,.int .i64 (40+N),.int .i64 (y:Int)]) rfl 227 _ _ rfl rfl rfl (HB1.out.nth 0 rfl) (by kernel_rfl) (by kernel_rfl) (by kernel_rfl) (by kernel_rfl) ?_;intro W9 hW9 hg9 hz9;have hVE:=HB1.out.be.trans (below_of_only hg9 HB1.out.be.size (fun k hk=>by injection hk with hk;omega))
 go_wp2_with fail
 exact bodyPost_ret (v:= .agg #[.int .i64 6,.int .i64 40,.int .i64 (40+N),.int .i64 (y:Int)]) (results_cell_row rfl _ _ w.heap.size 227 _ (0,0) _ rfl hW9 Tryz.underlying227 rfl (by kernel_rfl)) rfl ⟨by rfl,hVE⟩
set_option maxHeartbeats 800000 in
theorem peek_any (s:ByteArray) (w:World) (hs:s.size≤1099511627776):Calls Tryz.prog 117 #[.string s] w fun e w'=>e= .returned (.tuple #[.agg (pkH s).vals,.int .i64 (pkE s)])∧Below w.heap.size w w':=by
 have HB:=Lib.hid (bk1 w 227 zh);by_cases h0:s.size=0
 ·have ht:s=nob:=by
   apply bl_inj;rw[show bl nob=[]from rfl];exact List.eq_nil_of_length_eq_zero (by rw[bl_len];exact h0)
  have HE:=Lib.hid (pk_zero (s:=s) (c:=10) (by unfold pkE;rw[if_pos h0]) (by decide));subst ht;clear h0 hs
  go_enter Tryz.func117,Tryz.ntmps117
  go_wp2_with (refine wpList_store_blk (g:=w.heap.size) (T:=227) (cs':=zh) rfl 227 _ _ rfl rfl rfl (HB.out.nth 0 rfl) (by kernel_rfl) (by kernel_rfl) (by kernel_rfl) (by kernel_rfl) ?_;intro W9 hW9 hg9 hz9)
  have hVE:=HB.out.be.trans (below_of_only hg9 HB.out.be.size (fun k hk=>by injection hk with hk;omega));exact bodyPost_ret (v:= .tuple #[.agg zh,.int .i64 10]) (by refine res_row (fn:=Tryz.f117) (p:=2) (q:=3) rfl _ _ w.heap.size 227 _ (0,0) _ ?_ hW9 Tryz.underlying227 rfl (by kernel_rfl);rfl) rfl ⟨by first|(rw[HE.out.1,HE.out.2];rfl),hVE⟩
 ·have hn2:s.toList.isEmpty=false:=by rw[isEmpty_iff];simpa using h0
  have hn:(s.toList==(nob:ByteArray).toList)=false:=by
   rw[bytes_eq];have:s≠nob:=by rintro rfl;exact h0 rfl
   simp[this]
  have i0: ∀V:World,(Instr.index 9 (.string s) (.int .i64 0)).run Tryz.prog V= .ok (.int .u8 (at0 s 0:Int)) V:=fun V=>idx_at s 0 (by omega) V;have k4:=fun(h:20≤s.size) V=>peek4_any s V h hs;have k6:=fun(h:40≤s.size) V=>peek6_any s V h hs;have l0:=at0_lt s 0;have e4:at0 s 0/16=4→pkE s=(if s.size<20 then 10 else hdE (hd4 s) 20)∧pkH s=if pkE s=0 then hd4 s else zeroH:=fun e=>⟨by unfold pkE;rw[if_neg h0,if_pos e],by unfold pkH;rw[if_pos e]⟩;have e6:at0 s 0/16=6→pkE s=(if s.size<40 then 10 else hdE (hd6 s) 40)∧pkH s=if pkE s=0 then hd6 s else zeroH:=fun e=>⟨by unfold pkE;rw[if_neg h0,if_neg (by omega),if_pos e],by unfold pkH;rw[if_neg (show ¬at0 s 0/16=4 by omega)]⟩;have e0:at0 s 0/16≠4→at0 s 0/16≠6→pkE s=14:=fun a b=>by unfold pkE;rw[if_neg h0,if_neg a,if_neg b]
  obtain⟨x,hx⟩: ∃x,at0 s 0=x:=⟨_,rfl⟩;rw[hx]at i0 l0 e4 e6 e0;have z0:(x:Int)≤255:=by omega
  clear h0 hx;by_cases v4:x/16=4
  ·obtain⟨g1,g2⟩:=e4 v4
   have t1:((x:Int)/16==4)=true:=by simp;omega
   by_cases hl:s.size<20
   ·have t2:decide ((s.size:Int)<20)=true:=by simp;omega
    rw[if_pos hl]at g1;have HE:=Lib.hid (pk_zero g1 (by decide));clear e4 e6 e0 v4 g1 g2 k4 k6 hl
    go_enter Tryz.func117,Tryz.ntmps117
    go_wp2_with (refine wpList_store_blk (g:=w.heap.size) (T:=227) (cs':=zh) rfl 227 _ _ rfl rfl rfl (HB.out.nth 0 rfl) (by kernel_rfl) (by kernel_rfl) (by kernel_rfl) (by kernel_rfl) ?_;intro W9 hW9 hg9 hz9)
    have hVE:=HB.out.be.trans (below_of_only hg9 HB.out.be.size (fun k hk=>by injection hk with hk;omega));exact bodyPost_ret (v:= .tuple #[.agg zh,.int .i64 10]) (by refine res_row (fn:=Tryz.f117) (p:=2) (q:=3) rfl _ _ w.heap.size 227 _ (0,0) _ ?_ hW9 Tryz.underlying227 rfl (by kernel_rfl);rfl) rfl ⟨by first|(rw[HE.out.1,HE.out.2];rfl),hVE⟩
   ·have t2:decide ((s.size:Int)<20)=false:=by simp;omega
    rw[if_neg hl]at g1;replace k4:=k4 (by omega);clear e4 e6 e0 v4 k6 hl;obtain⟨H,hH⟩: ∃H,hd4 s=H:=⟨_,rfl⟩;rw[hH]at k4 g1 g2;clear hH;obtain⟨ve,he,le,pr⟩:=H;unfold Hd.vals at k4;unfold hdE at g1;dsimp only at*;by_cases p1:he<20
    ·have t3:decide (he<20)=true:=by simpa using p1
     have HE:=Lib.hid (pk_zero (g1.trans (if_pos (Or.inl p1))) (by decide));clear g1 g2 p1
     go_enter Tryz.func117,Tryz.ntmps117
     go_wp2_with fail
     (with_reducible refine(k4 _).mono ?_);rintro e1 W1 ⟨rfl,hb1⟩
     have HB1:=Lib.hid ((HB.out.below hb1).new 227 #[.int .i64 ve,.int .i64 he,.int .i64 le,.int .i64 pr]);clear k4 HB hb1
     go_wp2_with (refine wpList_store_blk (g:=w.heap.size) (T:=227) (cs':=zh) rfl 227 _ _ rfl rfl rfl (HB1.out.nth 1 rfl) (by kernel_rfl) (by kernel_rfl) (by kernel_rfl) (by kernel_rfl) ?_;intro W9 hW9 hg9 hz9)
     have hVE:=HB1.out.be.trans (below_of_only hg9 HB1.out.be.size (fun k hk=>by injection hk with hk;omega));exact bodyPost_ret (v:= .tuple #[.agg zh,.int .i64 12]) (by refine res_row (fn:=Tryz.f117) (p:=2) (q:=3) rfl _ _ w.heap.size 227 _ (0,0) _ ?_ hW9 Tryz.underlying227 rfl (by kernel_rfl);rfl) rfl ⟨by first|(rw[HE.out.1,HE.out.2];rfl),hVE⟩
    ·have t3:decide (he<20)=false:=by simpa using p1
     by_cases p2:le<he
     ·have t4:decide (le<he)=true:=by simpa using p2
      have HE:=Lib.hid (pk_zero (g1.trans (if_pos (Or.inr p2))) (by decide));clear g1 g2 p1 p2
      go_enter Tryz.func117,Tryz.ntmps117
      go_wp2_with fail
      (with_reducible refine(k4 _).mono ?_);rintro e1 W1 ⟨rfl,hb1⟩
      have HB1:=Lib.hid ((HB.out.below hb1).new 227 #[.int .i64 ve,.int .i64 he,.int .i64 le,.int .i64 pr]);clear k4 HB hb1
      go_wp2_with (refine wpList_store_blk (g:=w.heap.size) (T:=227) (cs':=zh) rfl 227 _ _ rfl rfl rfl (HB1.out.nth 1 rfl) (by kernel_rfl) (by kernel_rfl) (by kernel_rfl) (by kernel_rfl) ?_;intro W9 hW9 hg9 hz9)
      have hVE:=HB1.out.be.trans (below_of_only hg9 HB1.out.be.size (fun k hk=>by injection hk with hk;omega));exact bodyPost_ret (v:= .tuple #[.agg zh,.int .i64 12]) (by refine res_row (fn:=Tryz.f117) (p:=2) (q:=3) rfl _ _ w.heap.size 227 _ (0,0) _ ?_ hW9 Tryz.underlying227 rfl (by kernel_rfl);rfl) rfl ⟨by first|(rw[HE.out.1,HE.out.2];rfl),hVE⟩
     ·have t4:decide (le<he)=false:=by simpa using p2
      rw[if_neg (by omega)]at g1;by_cases p3:4080<le
      ·have t5:decide (4080<le)=true:=by simpa using p3
       have HE:=Lib.hid (pk_zero (g1.trans (if_pos p3)) (by decide));clear g1 g2 p1 p2 p3
       go_enter Tryz.func117,Tryz.ntmps117
       go_wp2_with fail
       (with_reducible refine(k4 _).mono ?_);rintro e1 W1 ⟨rfl,hb1⟩
       have HB1:=Lib.hid ((HB.out.below hb1).new 227 #[.int .i64 ve,.int .i64 he,.int .i64 le,.int .i64 pr]);clear k4 HB hb1
       go_wp2_with (refine wpList_store_blk (g:=w.heap.size) (T:=227) (cs':=zh) rfl 227 _ _ rfl rfl rfl (HB1.out.nth 1 rfl) (by kernel_rfl) (by kernel_rfl) (by kernel_rfl) (by kernel_rfl) ?_;intro W9 hW9 hg9 hz9)
       have hVE:=HB1.out.be.trans (below_of_only hg9 HB1.out.be.size (fun k hk=>by injection hk with hk;omega));exact bodyPost_ret (v:= .tuple #[.agg zh,.int .i64 15]) (by refine res_row (fn:=Tryz.f117) (p:=2) (q:=3) rfl _ _ w.heap.size 227 _ (0,0) _ ?_ hW9 Tryz.underlying227 rfl (by kernel_rfl);rfl) rfl ⟨by first|(rw[HE.out.1,HE.out.2];rfl),hVE⟩
      ·have t5:decide (4080<le)=false:=by simpa using p3
       rw[if_neg p3]at g1;have HE:=Lib.hid (And.intro g1 (g2.trans (if_pos g1)));clear g1 g2 p1 p2 p3
       go_enter Tryz.func117,Tryz.ntmps117
       go_wp2_with fail
       (with_reducible refine(k4 _).mono ?_);rintro e1 W1 ⟨rfl,hb1⟩
       have HB1:=Lib.hid ((HB.out.below hb1).new 227 #[.int .i64 ve,.int .i64 he,.int .i64 le,.int .i64 pr]);clear k4 HB hb1
       go_wp2_with (refine wpList_store_blk (g:=w.heap.size) (T:=227) (cs':= #[.int .i64 ve,.int .i64 he,.int .i64 le,.int .i64 pr]) rfl 227 _ _ rfl rfl rfl (HB1.out.nth 1 rfl) (by kernel_rfl) (by kernel_rfl) (by kernel_rfl) (by kernel_rfl) ?_;intro W9 hW9 hg9 hz9)
       have hVE:=HB1.out.be.trans (below_of_only hg9 HB1.out.be.size (fun k hk=>by injection hk with hk;omega));exact bodyPost_ret (v:= .tuple #[.agg #[.int .i64 ve,.int .i64 he,.int .i64 le,.int .i64 pr],.int .i64 0]) (by refine res_row (fn:=Tryz.f117) (p:=2) (q:=3) rfl _ _ w.heap.size 227 _ (0,0) _ ?_ hW9 Tryz.underlying227 rfl (by kernel_rfl);rfl) rfl ⟨by rw[HE.out.1,HE.out.2];rfl,hVE⟩
  ·by_cases v6:x/16=6
   ·obtain⟨g1,g2⟩:=e6 v6
    have t0:((x:Int)/16==4)=false:=by simp;omega
    have t1:((x:Int)/16==6)=true:=by simp;omega
    by_cases hl:s.size<40
    ·have t2:decide ((s.size:Int)<40)=true:=by simp;omega
     rw[if_pos hl]at g1;have HE:=Lib.hid (pk_zero g1 (by decide));clear e4 e6 e0 v4 v6 g1 g2 k4 k6 hl
     go_enter Tryz.func117,Tryz.ntmps117
     go_wp2_with (refine wpList_store_blk (g:=w.heap.size) (T:=227) (cs':=zh) rfl 227 _ _ rfl rfl rfl (HB.out.nth 0 rfl) (by kernel_rfl) (by kernel_rfl) (by kernel_rfl) (by kernel_rfl) ?_;intro W9 hW9 hg9 hz9)
     have hVE:=HB.out.be.trans (below_of_only hg9 HB.out.be.size (fun k hk=>by injection hk with hk;omega));exact bodyPost_ret (v:= .tuple #[.agg zh,.int .i64 10]) (by refine res_row (fn:=Tryz.f117) (p:=2) (q:=3) rfl _ _ w.heap.size 227 _ (0,0) _ ?_ hW9 Tryz.underlying227 rfl (by kernel_rfl);rfl) rfl ⟨by first|(rw[HE.out.1,HE.out.2];rfl),hVE⟩
    ·have t2:decide ((s.size:Int)<40)=false:=by simp;omega
     rw[if_neg hl]at g1;replace k6:=k6 (by omega);clear e4 e6 e0 v4 v6 k4 hl;obtain⟨H,hH⟩: ∃H,hd6 s=H:=⟨_,rfl⟩;rw[hH]at k6 g1 g2;clear hH;obtain⟨ve,he,le,pr⟩:=H;unfold Hd.vals at k6;unfold hdE at g1;dsimp only at*;by_cases p1:he<40
     ·have t3:decide (he<40)=true:=by simpa using p1
      have HE:=Lib.hid (pk_zero (g1.trans (if_pos (Or.inl p1))) (by decide));clear g1 g2 p1
      go_enter Tryz.func117,Tryz.ntmps117
      go_wp2_with fail
      (with_reducible refine(k6 _).mono ?_);rintro e1 W1 ⟨rfl,hb1⟩
      have HB1:=Lib.hid ((HB.out.below hb1).new 227 #[.int .i64 ve,.int .i64 he,.int .i64 le,.int .i64 pr]);clear k6 HB hb1
      go_wp2_with (refine wpList_store_blk (g:=w.heap.size) (T:=227) (cs':=zh) rfl 227 _ _ rfl rfl rfl (HB1.out.nth 1 rfl) (by kernel_rfl) (by kernel_rfl) (by kernel_rfl) (by kernel_rfl) ?_;intro W9 hW9 hg9 hz9)
      have hVE:=HB1.out.be.trans (below_of_only hg9 HB1.out.be.size (fun k hk=>by injection hk with hk;omega));exact bodyPost_ret (v:= .tuple #[.agg zh,.int .i64 12]) (by refine res_row (fn:=Tryz.f117) (p:=2) (q:=3) rfl _ _ w.heap.size 227 _ (0,0) _ ?_ hW9 Tryz.underlying227 rfl (by kernel_rfl);rfl) rfl ⟨by first|(rw[HE.out.1,HE.out.2];rfl),hVE⟩
     ·have t3:decide (he<40)=false:=by simpa using p1
      by_cases p2:le<he
      ·have t4:decide (le<he)=true:=by simpa using p2
       have HE:=Lib.hid (pk_zero (g1.trans (if_pos (Or.inr p2))) (by decide));clear g1 g2 p1 p2
       go_enter Tryz.func117,Tryz.ntmps117
       go_wp2_with fail
       (with_reducible refine(k6 _).mono ?_);rintro e1 W1 ⟨rfl,hb1⟩
       have HB1:=Lib.hid ((HB.out.below hb1).new 227 #[.int .i64 ve,.int .i64 he,.int .i64 le,.int .i64 pr]);clear k6 HB hb1
       go_wp2_with (refine wpList_store_blk (g:=w.heap.size) (T:=227) (cs':=zh) rfl 227 _ _ rfl rfl rfl (HB1.out.nth 1 rfl) (by kernel_rfl) (by kernel_rfl) (by kernel_rfl) (by kernel_rfl) ?_;intro W9 hW9 hg9 hz9)
       have hVE:=HB1.out.be.trans (below_of_only hg9 HB1.out.be.size (fun k hk=>by injection hk with hk;omega));exact bodyPost_ret (v:= .tuple #[.agg zh,.int .i64 12]) (by refine res_row (fn:=Tryz.f117) (p:=2) (q:=3) rfl _ _ w.heap.size 227 _ (0,0) _ ?_ hW9 Tryz.underlying227 rfl (by kernel_rfl);rfl) rfl ⟨by first|(rw[HE.out.1,HE.out.2];rfl),hVE⟩
      ·have t4:decide (le<he)=false:=by simpa using p2
       rw[if_neg (by omega)]at g1;by_cases p3:4080<le
       ·have t5:decide (4080<le)=true:=by simpa using p3
        have HE:=Lib.hid (pk_zero (g1.trans (if_pos p3)) (by decide));clear g1 g2 p1 p2 p3
        go_enter Tryz.func117,Tryz.ntmps117
        go_wp2_with fail
        (with_reducible refine(k6 _).mono ?_);rintro e1 W1 ⟨rfl,hb1⟩
        have HB1:=Lib.hid ((HB.out.below hb1).new 227 #[.int .i64 ve,.int .i64 he,.int .i64 le,.int .i64 pr]);clear k6 HB hb1
        go_wp2_with (refine wpList_store_blk (g:=w.heap.size) (T:=227) (cs':=zh) rfl 227 _ _ rfl rfl rfl (HB1.out.nth 1 rfl) (by kernel_rfl) (by kernel_rfl) (by kernel_rfl) (by kernel_rfl) ?_;intro W9 hW9 hg9 hz9)
        have hVE:=HB1.out.be.trans (below_of_only hg9 HB1.out.be.size (fun k hk=>by injection hk with hk;omega));exact bodyPost_ret (v:= .tuple #[.agg zh,.int .i64 15]) (by refine res_row (fn:=Tryz.f117) (p:=2) (q:=3) rfl _ _ w.heap.size 227 _ (0,0) _ ?_ hW9 Tryz.underlying227 rfl (by kernel_rfl);rfl) rfl ⟨by first|(rw[HE.out.1,HE.out.2];rfl),hVE⟩
       ·have t5:decide (4080<le)=false:=by simpa using p3
        rw[if_neg p3]at g1;have HE:=Lib.hid (And.intro g1 (g2.trans (if_pos g1)));clear g1 g2 p1 p2 p3
        go_enter Tryz.func117,Tryz.ntmps117
        go_wp2_with fail
        (with_reducible refine(k6 _).mono ?_);rintro e1 W1 ⟨rfl,hb1⟩
        have HB1:=Lib.hid ((HB.out.below hb1).new 227 #[.int .i64 ve,.int .i64 he,.int .i64 le,.int .i64 pr]);clear k6 HB hb1
        go_wp2_with (refine wpList_store_blk (g:=w.heap.size) (T:=227) (cs':= #[.int .i64 ve,.int .i64 he,.int .i64 le,.int .i64 pr]) rfl 227 _ _ rfl rfl rfl (HB1.out.nth 1 rfl) (by kernel_rfl) (by kernel_rfl) (by kernel_rfl) (by kernel_rfl) ?_;intro W9 hW9 hg9 hz9)
        have hVE:=HB1.out.be.trans (below_of_only hg9 HB1.out.be.size (fun k hk=>by injection hk with hk;omega));exact bodyPost_ret (v:= .tuple #[.agg #[.int .i64 ve,.int .i64 he,.int .i64 le,.int .i64 pr],.int .i64 0]) (by refine res_row (fn:=Tryz.f117) (p:=2) (q:=3) rfl _ _ w.heap.size 227 _ (0,0) _ ?_ hW9 Tryz.underlying227 rfl (by kernel_rfl);rfl) rfl ⟨by rw[HE.out.1,HE.out.2];rfl,hVE⟩
   ·have t0:((x:Int)/16==4)=false:=by simp;omega
    have t1:((x:Int)/16==6)=false:=by simp;omega
    have HE:=Lib.hid (pk_zero (e0 v4 v6) (by decide));clear e4 e6 e0 v4 v6 k4 k6
    go_enter Tryz.func117,Tryz.ntmps117
    go_wp2_with (refine wpList_store_blk (g:=w.heap.size) (T:=227) (cs':=zh) rfl 227 _ _ rfl rfl rfl (HB.out.nth 0 rfl) (by kernel_rfl) (by kernel_rfl) (by kernel_rfl) (by kernel_rfl) ?_;intro W9 hW9 hg9 hz9)
    have hVE:=HB.out.be.trans (below_of_only hg9 HB.out.be.size (fun k hk=>by injection hk with hk;omega));exact bodyPost_ret (v:= .tuple #[.agg zh,.int .i64 14]) (by refine res_row (fn:=Tryz.f117) (p:=2) (q:=3) rfl _ _ w.heap.size 227 _ (0,0) _ ?_ hW9 Tryz.underlying227 rfl (by kernel_rfl);rfl) rfl ⟨by first|(rw[HE.out.1,HE.out.2];rfl),hVE⟩
end Go.Proofs.YtibjkhepedfpiaaGreatDoor.DgB
namespace Go.Proofs.YtibjkhepedfpiaaGreatDoor.DgC
open Go Go.RowKit Q Mem Rg Ap St BiH SeI SeEq DgP DgA DgB
def dgE (s:ByteArray):Int:=
 if pkE s≠0 then pkE s else if(s.size:Int)<(pkH s).length then 10 else if(pkH s).length<s.size then 11 else if(pkH s).ver=4∧dsum (s.extract 0 (pkH s).header.toNat)≠0 then 13 else 0
theorem pk_ok {s:ByteArray} (h:pkE s=0):((pkH s).ver=4∨(pkH s).ver=6)∧20≤(pkH s).header∧(pkH s).header≤(pkH s).length∧(pkH s).length≤4080:=by
 unfold pkH;rw[if_pos h];unfold pkE at h;by_cases h0:s.size=0
 ·rw[if_pos h0]at h;omega
 ·rw[if_neg h0]at h
  by_cases h4:at0 s 0/16=4
  ·rw[if_pos h4]at h ⊢
   split at h
   ·omega
   ·unfold hdE at h
    split at h
    ·omega
    ·split at h
     ·omega
     ·exact⟨Or.inl rfl,by omega,by omega,by omega⟩
  ·rw[if_neg h4]at h ⊢
   split at h
   ·split at h
    ·omega
    ·unfold hdE at h
     split at h
     ·omega
     ·split at h
      ·omega
      ·exact⟨Or.inr rfl,by omega,by omega,by omega⟩
   ·omega
set_option maxRecDepth 100000
set_option maxHeartbeats 800000 in
theorem check_any (s:ByteArray) (w:World) (hs:s.size≤1099511627776):Calls Tryz.prog 86 #[.string s] w fun e w'=>e= .returned (.int .i64 (dgE s))∧Below w.heap.size w w':=by
 have kp:=fun V=>peek_any s V hs;have hd:dgE s=if pkE s≠0 then pkE s else if(s.size:Int)<(pkH s).length then 10 else if(pkH s).length<s.size then 11 else if(pkH s).ver=4∧dsum (s.extract 0 (pkH s).header.toNat)≠0 then 13 else 0:=rfl;have hok:= @pk_ok s;obtain⟨H,hH⟩: ∃H,pkH s=H:=⟨_,rfl⟩;rw[hH]at kp hd hok;obtain⟨E,hE⟩: ∃E,pkE s=E:=⟨_,rfl⟩;rw[hE]at kp hd hok;obtain⟨D,hD⟩: ∃D,dgE s=D:=⟨_,rfl⟩;rw[hD]at hd ⊢;clear hH hE hD;obtain⟨ve,he,le,pr⟩:=H;unfold Hd.vals at kp;dsimp only at*;by_cases g1:E=0
 ·obtain⟨hv,o1,o2,o3⟩:=hok g1
  rw[if_neg (by simpa using g1)]at hd;subst g1;by_cases g2:(s.size:Int)<le
  ·have t2:decide ((s.size:Int)<le)=true:=by simpa using g2
   rw[if_pos g2]at hd;subst hd;clear g2 hok hv o1 o2 o3
   go_enter Tryz.func86,Tryz.ntmps86
   go_wp2_with fail
   (with_reducible refine(kp _).mono ?_);rintro e1 W1 ⟨rfl,hb1⟩
   have hE:=hb1.alloc hb1.size (.cells #[.int .i64 ve,.int .i64 he,.int .i64 le,.int .i64 pr] 227)
   go_wp2_with fail
   go_ret;exact⟨rfl,hE⟩
  ·have t2:decide ((s.size:Int)<le)=false:=by simpa using g2
   rw[if_neg g2]at hd;by_cases g3:le<(s.size:Int)
   ·have t3:decide (le<(s.size:Int))=true:=by simpa using g3
    rw[if_pos g3]at hd;subst hd;clear g2 g3 hok hv o1 o2 o3
    go_enter Tryz.func86,Tryz.ntmps86
    go_wp2_with fail
    (with_reducible refine(kp _).mono ?_);rintro e1 W1 ⟨rfl,hb1⟩
    have hE:=hb1.alloc hb1.size (.cells #[.int .i64 ve,.int .i64 he,.int .i64 le,.int .i64 pr] 227)
    go_wp2_with fail
    go_ret;exact⟨rfl,hE⟩
   ·have t3:decide (le<(s.size:Int))=false:=by simpa using g3
    rw[if_neg g3]at hd;by_cases g4:ve=4
    ·have t4:(ve==4)=true:=by simpa using g4
     obtain⟨n,rfl⟩: ∃n:Nat,he=(n:Int):=⟨he.toNat,by omega⟩;rw[Int.toNat_natCast]at hd;have z1:(n:Int)≤(s.size:Int):=by omega
     have ks:=fun g o c V h=>sum_one g o c (s.extract 0 n) V h (by rw[ByteArray.size_extract];omega);obtain⟨M,hM⟩: ∃M,dsum (s.extract 0 n)=M:=⟨_,rfl⟩;rw[hM]at ks hd
     have t5:((M:Int)!=0)=decide (M≠0):=by
      by_cases hm:M=0<;>simp[hm]
     have HD:=Lib.hid hd;clear g2 g3 hok hv o1 o2 o3 hM hd;subst g4
     go_enter Tryz.func86,Tryz.ntmps86
     go_wp2_with fail
     (with_reducible refine(kp _).mono ?_);rintro e1 W1 ⟨rfl,hb1⟩
     have hE:=(hb1.alloc hb1.size (.cells #[.int .i64 4,.int .i64 (n:Int),.int .i64 le,.int .i64 pr] 227)).alloc (by simp;exact Nat.le_succ_of_le hb1.size) (.cells #[.string (s.extract 0 n)] 9)
     go_wp2_with fail
     have hcl:=Blk.cell (Blk.newAt (W1.alloc (.cells #[.int .i64 4,.int .i64 (n:Int),.int .i64 le,.int .i64 pr] 227)) 9 #[.string (s.extract 0 n)] (n:=W1.heap.size+1) (by simp)) 0 rfl
     (with_reducible refine(ks _ _ _ _ hcl).mono ?_);rintro e1 W2 ⟨rfl,rfl⟩
     clear hcl;by_cases hm:M=0
     ·have HD:=Lib.hid (HD.out.trans (if_neg (fun h=>h.2 hm)))
      have t6:((M:Int)!=0)=false:=by simp[hm]
      clear ks hb1 kp hm t5
      go_wp2_with fail
      go_ret;exact⟨by rw[HD.out];rfl,hE⟩
     ·rw[decide_eq_true hm]at t5
      have HD:=Lib.hid (HD.out.trans (if_pos ⟨trivial,hm⟩));clear ks hb1 kp hm
      go_wp2_with fail
      go_ret;exact⟨by rw[HD.out];rfl,hE⟩
    ·have t4:(ve==4)=false:=by simpa using g4
     rw[if_neg (fun h=>g4 h.1)]at hd;subst hd;clear g2 g3 g4 hok hv o1 o2 o3
     go_enter Tryz.func86,Tryz.ntmps86
     go_wp2_with fail
     (with_reducible refine(kp _).mono ?_);rintro e1 W1 ⟨rfl,hb1⟩
     have hE:=hb1.alloc hb1.size (.cells #[.int .i64 ve,.int .i64 he,.int .i64 le,.int .i64 pr] 227)
     go_wp2_with fail
     go_ret;exact⟨rfl,hE⟩
 ·rw[if_pos g1]at hd
  subst hd;have t1:(D !=0)=true:=by simpa using g1
  clear g1 hok
  go_enter Tryz.func86,Tryz.ntmps86
  go_wp2_with fail
  (with_reducible refine(kp _).mono ?_);rintro e1 W1 ⟨rfl,hb1⟩
  have hE:=hb1.alloc hb1.size (.cells #[.int .i64 ve,.int .i64 he,.int .i64 le,.int .i64 pr] 227)
  go_wp2_with fail
  go_ret;exact⟨rfl,hE⟩
end Go.Proofs.YtibjkhepedfpiaaGreatDoor.DgC
namespace Go.Proofs.YtibjkhepedfpiaaGreatDoor.DgD
open Go Go.RowKit Q Mem Rg Ap St BiH SeI SeEq DgP DgB DgC
set_option maxRecDepth 100000
theorem rsum_any (s:ByteArray) (w:World) (hs:s.size≤1099511627776):Calls Tryz.prog 97 #[.string s] w fun e w'=>e= .returned (.int .i64 (dsum s:Int))∧w=w':=by
 obtain⟨R,hR⟩: ∃R:Ending→World→Prop,R=(fun e w'=>e= .returned (.int .i64 (dsum s:Int))∧w=w'):=⟨_,rfl⟩;rw[←hR];have HRR:=Lib.hid hR;clear hR
 go_enter Tryz.func97,Tryz.ntmps97
 go_wp2_with fail
 go_loopw [3,4] (fun n i wr=> ∃k m:Nat,i= .int .i64 k∧n= .int .i64 m∧m≤65535∧k≤s.size+1∧Hid ((k≤s.size→k%2=0∧m=r15 (256*dh s k+dl s k))∧(s.size≤k→m=r15 (256*dh s s.size+dl s s.size)))∧w=wr) (fun _ i _=>s.size+1-(intOf i).toNat)
 case atStart=>exact⟨0,0,rfl,rfl,by omega,by omega,Lib.hid ⟨fun _=>⟨rfl,rfl⟩,fun h=>by rw[show s.size=0 by omega];rfl⟩,rfl⟩
 case round=>
  obtain⟨k,m,rfl,rfl,hm,hk,hI,rfl⟩:=hrel;by_cases hlt:k<s.size
  ·have t1:decide ((k:Int)<(s.size:Int))=true:=by simp;omega
   obtain⟨he,hmr⟩:=hI.out.1 (by omega);have i0:=fun V=>idx_at s k hlt V;rw[at0_at]at i0;have l0:=at0_lt s k;have hd:=d_even s (k/2);have hd2:=d_odd s (k/2);rw[show 2*(k/2)=k by omega]at hd hd2;have zm:(m:Int)≤65535:=by omega
   have zk:(k:Int)≤1099511627776:=by omega
   by_cases hl2:k+1<s.size
   ·have t2:decide ((k:Int)+1<(s.size:Int))=true:=by simp;omega
    have i1:=fun V=>idx_at s (k+1) hl2 V;rw[at0_at,show((k+1:Nat):Int)=(k:Int)+1 by omega]at i1;have l1:=at0_lt s (k+1);obtain⟨x,hx⟩: ∃x,at0 s k=x:=⟨_,rfl⟩;obtain⟨y,hy⟩: ∃y,at0 s (k+1)=y:=⟨_,rfl⟩;rw[hx]at i0 l0 hd2;rw[hy]at i1 l1 hd2;have z0:(x:Int)≤255:=by omega
    have z1:(y:Int)≤255:=by omega
    have hadd:=r15_add (256*dh s k+dl s k) (256*x+y) (by omega);rw[←hd2,←hmr]at hadd
    have hnext: ∀m',r15 (256*dh s (k+2)+dl s (k+2))=m'→Hid ((k+2≤s.size→(k+2)%2=0∧m'=r15 (256*dh s (k+2)+dl s (k+2)))∧(s.size≤k+2→m'=r15 (256*dh s s.size+dl s s.size))):=fun m' h=>Lib.hid ⟨fun _=>⟨by omega,h.symm⟩,fun hs2=>by
     obtain h0:s.size=k+2:=by omega
     rw[h0];exact h.symm⟩
    have HN:=Lib.hid hnext;have HA:=Lib.hid hadd;clear hnext hadd hd hd2 hx hy hI hmr l0 l1;by_cases ho:65535<m+(256*x+y)
    ·have t3:decide (65535<(m:Int)+256*(x:Int)+(y:Int))=true:=by simp;omega
     have HZ:=Lib.hid (HA.out.trans (if_pos ho));have HC:=Lib.hid (show(m:Int)+256*(x:Int)+(y:Int)-65535=((m+(256*x+y)-65535:Nat):Int) by omega)
     go_wp2_with fail
     rw[HC.out]
     go_roundw
     case rel=>exact⟨k+2,_,by go_num,rfl,by omega,by omega,HN.out _ HZ.out,trivial⟩
     case measure=>simp[intOf];omega
    ·have t3:decide (65535<(m:Int)+256*(x:Int)+(y:Int))=false:=by simp;omega
     have HZ:=Lib.hid (HA.out.trans (if_neg ho));have HC:=Lib.hid (show(m:Int)+256*(x:Int)+(y:Int)=((m+(256*x+y):Nat):Int) by omega)
     go_wp2_with fail
     rw[HC.out]
     go_roundw
     case rel=>exact⟨k+2,_,by go_num,rfl,by omega,by omega,HN.out _ HZ.out,trivial⟩
     case measure=>simp[intOf];omega
   ·have t2:decide ((k:Int)+1<(s.size:Int))=false:=by simp;omega
    obtain⟨x,hx⟩: ∃x,at0 s k=x:=⟨_,rfl⟩;rw[hx]at i0 l0 hd;have z0:(x:Int)≤255:=by omega
    have hadd:=r15_add (256*dh s k+dl s k) (256*x) (by omega);rw[←hd,←hmr,show k+1=s.size by omega]at hadd;have hks:s.size=k+1:=by omega
    have hnext: ∀m',r15 (256*dh s s.size+dl s s.size)=m'→Hid ((k+2≤s.size→(k+2)%2=0∧m'=r15 (256*dh s (k+2)+dl s (k+2)))∧(s.size≤k+2→m'=r15 (256*dh s s.size+dl s s.size))):=fun m' h=>Lib.hid ⟨fun _=>by omega,fun _=>h.symm⟩;have HN:=Lib.hid hnext;have HA:=Lib.hid hadd;clear hnext hadd hd hd2 hx hI hmr l0;by_cases ho:65535<m+256*x
    ·have t3:decide (65535<(m:Int)+256*(x:Int))=true:=by simp;omega
     have HZ:=Lib.hid (HA.out.trans (if_pos ho));have HC:=Lib.hid (show(m:Int)+256*(x:Int)-65535=((m+256*x-65535:Nat):Int) by omega)
     go_wp2_with fail
     rw[HC.out]
     go_roundw
     case rel=>exact⟨k+2,_,by go_num,rfl,by omega,by omega,HN.out _ HZ.out,trivial⟩
     case measure=>simp[intOf];omega
    ·have t3:decide (65535<(m:Int)+256*(x:Int))=false:=by simp;omega
     have HZ:=Lib.hid (HA.out.trans (if_neg ho));have HC:=Lib.hid (show(m:Int)+256*(x:Int)=((m+256*x:Nat):Int) by omega)
     go_wp2_with fail
     rw[HC.out]
     go_roundw
     case rel=>exact⟨k+2,_,by go_num,rfl,by omega,by omega,HN.out _ HZ.out,trivial⟩
     case measure=>simp[intOf];omega
  ·have t1:decide ((k:Int)<(s.size:Int))=false:=by simp;omega
   have HE:=Lib.hid (show dsum s=65535-m by unfold dsum;rw[←hI.out.2 (by omega)]);have HC:=Lib.hid (show((65535-m:Nat):Int)=65535-(m:Int) by omega);have zm:(m:Int)≤65535:=by omega
   clear hI
   go_wp2_with fail
   rw[HRR.out,HE.out,HC.out];exact⟨rfl,rfl⟩
end Go.Proofs.YtibjkhepedfpiaaGreatDoor.DgD
namespace Go.Proofs.YtibjkhepedfpiaaGreatDoor.DgF
open Go Go.RowKit Q Mem Rg Ap St BiH SeI SeEq DgP DgB DgC
theorem bk_put1 {w W:World} {g:Nat} {T:TypeId} {cs:Array Value} {L:List (Nat×TypeId×Array Value)} (h:Bk w W ((g,T,cs)::L)) (hg:w.heap.size≤g) (hL: ∀x∈L,x.1≠g) (i:Nat) (v:Value):
 Bk w (W.setCell ⟨g,i,none⟩ v) ((g,T,cs.setIfInBounds i v)::L):=
 ⟨h.be.setCell (p:=⟨g,i,none⟩) hg v,fun x hx=>by
  rcases List.mem_cons.1 hx with rfl|hx
  ·exact Blk.set_ (h.nth 0 rfl) i v
  ·exact Blk.far (h.all x (List.mem_cons_of_mem _ hx)) (hL x hx) v⟩
set_option maxRecDepth 100000
set_option maxHeartbeats 3200000 in
theorem rpeek_any (s:ByteArray) (w:World) (hs:s.size≤1099511627776):Calls Tryz.prog 115 #[.string s] w fun e w'=>e= .returned (.tuple #[.agg (pkH s).vals,.int .i64 (pkE s)])∧Below w.heap.size w w':=by
 have HB0:=Lib.hid (bk1 w 223 zh);by_cases h0:s.size=0
 ·have HE:=Lib.hid (pk_zero (s:=s) (c:=10) (by unfold pkE;rw[if_pos h0]) (by decide))
  have t0:((s.size:Int)==0)=true:=beq_iff_eq.2 (by omega);clear h0 hs
  go_enter Tryz.func115,Tryz.ntmps115
  go_wp2_with (refine wpList_store_blk (g:=w.heap.size) (T:=223) (cs':=zh) rfl 223 _ _ rfl rfl rfl (HB0.out.nth 0 rfl) (by kernel_rfl) (by kernel_rfl) (by kernel_rfl) (by kernel_rfl) ?_;intro W9 hW9 hg9 hz9)
  have hVE:=HB0.out.be.trans (below_of_only hg9 HB0.out.be.size (fun k hk=>by injection hk with hk;omega));exact bodyPost_ret (v:= .tuple #[.agg zh,.int .i64 10]) (by refine res_row (fn:=Tryz.f115) (p:=2) (q:=3) rfl _ _ w.heap.size 223 _ (0,0) _ ?_ hW9 Tryz.underlying223 rfl (by kernel_rfl);rfl) rfl ⟨by first|(rw[HE.out.1,HE.out.2];rfl),hVE⟩
 ·have t0:((s.size:Int)==0)=false:=beq_eq_false_iff_ne.2 (by omega)
  have e4:at0 s 0/16=4→pkE s=(if s.size<20 then 10 else hdE (hd4 s) 20)∧pkH s=if pkE s=0 then hd4 s else zeroH:=fun e=>⟨by unfold pkE;rw[if_neg h0,if_pos e],by unfold pkH;rw[if_pos e]⟩;have e6:at0 s 0/16=6→pkE s=(if s.size<40 then 10 else hdE (hd6 s) 40)∧pkH s=if pkE s=0 then hd6 s else zeroH:=fun e=>⟨by unfold pkE;rw[if_neg h0,if_neg (by omega),if_pos e],by unfold pkH;rw[if_neg (show ¬at0 s 0/16=4 by omega)]⟩;have e0:at0 s 0/16≠4→at0 s 0/16≠6→pkE s=14:=fun a b=>by unfold pkE;rw[if_neg h0,if_neg a,if_neg b]
  have hd4e:hd4 s=⟨4,4*((at0 s 0:Int)%16),256*(at0 s 2:Int)+at0 s 3,at0 s 9⟩:=rfl;have hd6e:hd6 s=⟨6,40,40+(256*(at0 s 4:Int)+at0 s 5),at0 s 6⟩:=rfl;have i0: ∀V:World,(Instr.index 9 (.string s) (.int .i64 0)).run Tryz.prog V= .ok (.int .u8 (at0 s 0:Int)) V:=fun V=>idx_at s 0 (by omega) V;have l0:=at0_lt s 0;obtain⟨x,hx⟩: ∃x,at0 s 0=x:=⟨_,rfl⟩;rw[hx]at i0 l0;have z0:(x:Int)≤255:=by omega
  rw[hx]at e4 e6 e0 hd4e;by_cases v4:x/16=4
  ·obtain⟨g1,g2⟩:=e4 v4
   have q1:(x:Int)/16=4:=by omega
   have q2:(x:Int).tdiv 16=4:=by rw[Int.tdiv_eq_ediv_of_nonneg (by omega)];exact q1
   by_cases hl:s.size<20
   ·have t3:decide ((s.size:Int)<20)=true:=by simp;omega
    rw[if_pos hl]at g1;have HE:=Lib.hid (pk_zero g1 (by decide));clear e4 e6 e0 v4 g1 g2 hl hd4e hd6e hx l0 h0
    go_enter Tryz.func115,Tryz.ntmps115
    go_wp2_with (refine wpList_store_blk (g:=w.heap.size) (T:=223) (cs':=zh) rfl 223 _ _ rfl rfl rfl (HB0.out.nth 0 rfl) (by kernel_rfl) (by kernel_rfl) (by kernel_rfl) (by kernel_rfl) ?_;intro W9 hW9 hg9 hz9)
    have hVE:=HB0.out.be.trans (below_of_only hg9 HB0.out.be.size (fun k hk=>by injection hk with hk;omega));exact bodyPost_ret (v:= .tuple #[.agg zh,.int .i64 10]) (by refine res_row (fn:=Tryz.f115) (p:=2) (q:=3) rfl _ _ w.heap.size 223 _ (0,0) _ ?_ hW9 Tryz.underlying223 rfl (by kernel_rfl);rfl) rfl ⟨by first|(rw[HE.out.1,HE.out.2];rfl),hVE⟩
   ·have t3:decide ((s.size:Int)<20)=false:=by simp;omega
    rw[if_neg hl]at g1;have i2: ∀V:World,(Instr.index 9 (.string s) (.int .i64 2)).run Tryz.prog V= .ok (.int .u8 (at0 s 2:Int)) V:=fun V=>idx_at s 2 (by omega) V;have l2:=at0_lt s 2;obtain⟨x2,hx2⟩: ∃x,at0 s 2=x:=⟨_,rfl⟩;rw[hx2]at i2 l2;have z2:(x2:Int)≤255:=by omega
    have i3: ∀V:World,(Instr.index 9 (.string s) (.int .i64 3)).run Tryz.prog V= .ok (.int .u8 (at0 s 3:Int)) V:=fun V=>idx_at s 3 (by omega) V;have l3:=at0_lt s 3;obtain⟨x3,hx3⟩: ∃x,at0 s 3=x:=⟨_,rfl⟩;rw[hx3]at i3 l3;have z3:(x3:Int)≤255:=by omega
    have i4: ∀V:World,(Instr.index 9 (.string s) (.int .i64 4)).run Tryz.prog V= .ok (.int .u8 (at0 s 4:Int)) V:=fun V=>idx_at s 4 (by omega) V;have l4:=at0_lt s 4;obtain⟨x4,hx4⟩: ∃x,at0 s 4=x:=⟨_,rfl⟩;rw[hx4]at i4 l4;have z4:(x4:Int)≤255:=by omega
    have i5: ∀V:World,(Instr.index 9 (.string s) (.int .i64 5)).run Tryz.prog V= .ok (.int .u8 (at0 s 5:Int)) V:=fun V=>idx_at s 5 (by omega) V;have l5:=at0_lt s 5;obtain⟨x5,hx5⟩: ∃x,at0 s 5=x:=⟨_,rfl⟩;rw[hx5]at i5 l5;have z5:(x5:Int)≤255:=by omega
    have i6: ∀V:World,(Instr.index 9 (.string s) (.int .i64 6)).run Tryz.prog V= .ok (.int .u8 (at0 s 6:Int)) V:=fun V=>idx_at s 6 (by omega) V;have l6:=at0_lt s 6;obtain⟨p6,hp6⟩: ∃x,at0 s 6=x:=⟨_,rfl⟩;rw[hp6]at i6 l6;have z6:(p6:Int)≤255:=by omega
    have i9: ∀V:World,(Instr.index 9 (.string s) (.int .i64 9)).run Tryz.prog V= .ok (.int .u8 (at0 s 9:Int)) V:=fun V=>idx_at s 9 (by omega) V;have l9:=at0_lt s 9;obtain⟨p9,hp9⟩: ∃x,at0 s 9=x:=⟨_,rfl⟩;rw[hp9]at i9 l9;have z9:(p9:Int)≤255:=by omega
    rw[hx2,hx3,hp9]at hd4e;rw[hd4e]at g1 g2;unfold hdE at g1;dsimp only at g1;have HB:=Lib.hid (bk2 w 223 223 zh #[.int .i64 6,.int .i64 40,.int .i64 0,.int .i64 (p6:Int)]);clear e4 e6 e0 v4 hl hd4e hd6e hx hx2 hx3 hx4 hx5 hp6 hp9 l0 l2 l3 l4 l5 l6 l9 h0;by_cases p1:4*((x:Int)%16)<20
    ·have t4:decide (4*((x:Int)%16)<20)=true:=by simpa using p1
     have HE:=Lib.hid (pk_zero (g1.trans (if_pos (Or.inl p1))) (by decide));clear g1 g2 p1
     go_enter Tryz.func115,Tryz.ntmps115
     go_wp2_with fail
     refine Go.Proofs.YtibjkhepedfpiaaGreatDoor.Q.region_ext_tail 10 (by kernel_rfl) (by kernel_rfl) ?_;simp only[List.take_succ_cons,List.take_zero,List.drop_succ_cons,List.drop_zero]
     repeat (go_big_quiet_step (fail))
     refine wpQuiet_nil ?_;rintro w9 ⟨pq,rfl⟩;have HB1:=Lib.hid (HB.out.px pq);have d0:=Blk.cell (HB1.out.nth 0 rfl) 0 (v:= .int .i64 6) rfl;have d1:=Blk.cell (HB1.out.nth 0 rfl) 1 (v:= .int .i64 40) rfl;have d2:=Blk.cell (HB1.out.nth 0 rfl) 2 (v:= .int .i64 0) rfl;have d3:=Blk.cell (HB1.out.nth 0 rfl) 3 (v:= .int .i64 (p6:Int)) rfl;have f2:=Blk.frozen (HB1.out.nth 0 rfl) 2;have HB2:=Lib.hid (bk_put1 HB1.out (Nat.le_succ _) (by simp) 2 (.int .i64 (40+256*(x4:Int)+(x5:Int))))
     go_wp2_with fail
     refine wp_gen (fun V=>Bk w V [(w.heap.size+1,223,#[.int .i64 6,.int .i64 40,.int .i64 (40+256*(x4:Int)+(x5:Int)),.int .i64 (p6:Int)]),(w.heap.size,223,zh)]) HB2.out ?_;intro V HV;have HV:=Lib.hid HV;clear HB HB1 HB2 d0 d1 d2 d3 f2;have d0:=Blk.cell (HV.out.nth 0 rfl) 0 (v:= .int .i64 6) rfl;have d1:=Blk.cell (HV.out.nth 0 rfl) 1 (v:= .int .i64 40) rfl;have d2:=Blk.cell (HV.out.nth 0 rfl) 2 (v:= .int .i64 (40+256*(x4:Int)+(x5:Int))) rfl;have d3:=Blk.cell (HV.out.nth 0 rfl) 3 (v:= .int .i64 (p6:Int)) rfl
     go_wp2_with fail
     refine Go.Proofs.YtibjkhepedfpiaaGreatDoor.Q.region_ext_tail 17 (by kernel_rfl) (by kernel_rfl) ?_;simp only[List.take_succ_cons,List.take_zero,List.drop_succ_cons,List.drop_zero]
     repeat (go_big_quiet_step (fail))
     refine wpQuiet_nil ?_;rintro w9 ⟨pq,rfl⟩;have HB3:=Lib.hid (HV.out.px pq);refine wpList_store_blk (g:=w.heap.size+1) (T:=223) (cs':= #[.int .i64 4,.int .i64 (4*((x:Int)%16)),.int .i64 (256*(x2:Int)+(x3:Int)),.int .i64 (p9:Int)]) rfl 223 _ _ rfl rfl rfl (HB3.out.nth 0 rfl) (by kernel_rfl) (by kernel_rfl) (by kernel_rfl) (by kernel_rfl) ?_;intro V2 hV2 hgr hsz
     have HF:=Lib.hid (show Bk w V2 [(w.heap.size+1,223,#[.int .i64 4,.int .i64 (4*((x:Int)%16)),.int .i64 (256*(x2:Int)+(x3:Int)),.int .i64 (p9:Int)]),(w.heap.size,223,zh)]from⟨HB3.out.be.trans (below_of_only hgr HB3.out.size (fun k hk=>by injection hk with hk;omega)),fun x hx=>by
      rcases List.mem_cons.1 hx with rfl|hx
      ·exact hV2
      ·rcases List.mem_cons.1 hx with rfl|hx
       ·exact Blk.grown (HB3.out.nth 1 rfl) hgr (by simp)
       ·cases hx⟩)
     clear hV2 hgr hsz HB3 HV d0 d1 d2 d3;have d0:=Blk.cell (HF.out.nth 0 rfl) 0 (v:= .int .i64 4) rfl;have d1:=Blk.cell (HF.out.nth 0 rfl) 1 (v:= .int .i64 (4*((x:Int)%16))) rfl;have d2:=Blk.cell (HF.out.nth 0 rfl) 2 (v:= .int .i64 (256*(x2:Int)+(x3:Int))) rfl;have d3:=Blk.cell (HF.out.nth 0 rfl) 3 (v:= .int .i64 (p9:Int)) rfl
     go_wp2_with (refine wpList_store_blk (g:=w.heap.size) (T:=223) (cs':=zh) rfl 223 _ _ rfl rfl rfl (HF.out.nth 1 rfl) (by kernel_rfl) (by kernel_rfl) (by kernel_rfl) (by kernel_rfl) ?_;intro W9 hW9 hg9 hz9)
     have hVE:=HF.out.be.trans (below_of_only hg9 HF.out.be.size (fun k hk=>by injection hk with hk;omega));exact bodyPost_ret (v:= .tuple #[.agg zh,.int .i64 12]) (by refine res_row (fn:=Tryz.f115) (p:=2) (q:=3) rfl _ _ w.heap.size 223 _ (0,0) _ ?_ hW9 Tryz.underlying223 rfl (by kernel_rfl);rfl) rfl ⟨by first|(rw[HE.out.1,HE.out.2];rfl),hVE⟩
    ·have t4:decide (4*((x:Int)%16)<20)=false:=by simpa using p1
     by_cases p2:256*(x2:Int)+x3<4*((x:Int)%16)
     ·have t5:decide (256*(x2:Int)+x3<4*((x:Int)%16))=true:=by simpa using p2
      have HE:=Lib.hid (pk_zero (g1.trans (if_pos (Or.inr p2))) (by decide));clear g1 g2 p1 p2
      go_enter Tryz.func115,Tryz.ntmps115
      go_wp2_with fail
      refine Go.Proofs.YtibjkhepedfpiaaGreatDoor.Q.region_ext_tail 10 (by kernel_rfl) (by kernel_rfl) ?_;simp only[List.take_succ_cons,List.take_zero,List.drop_succ_cons,List.drop_zero]
      repeat (go_big_quiet_step (fail))
      refine wpQuiet_nil ?_;rintro w9 ⟨pq,rfl⟩;have HB1:=Lib.hid (HB.out.px pq);have d0:=Blk.cell (HB1.out.nth 0 rfl) 0 (v:= .int .i64 6) rfl;have d1:=Blk.cell (HB1.out.nth 0 rfl) 1 (v:= .int .i64 40) rfl;have d2:=Blk.cell (HB1.out.nth 0 rfl) 2 (v:= .int .i64 0) rfl;have d3:=Blk.cell (HB1.out.nth 0 rfl) 3 (v:= .int .i64 (p6:Int)) rfl;have f2:=Blk.frozen (HB1.out.nth 0 rfl) 2;have HB2:=Lib.hid (bk_put1 HB1.out (Nat.le_succ _) (by simp) 2 (.int .i64 (40+256*(x4:Int)+(x5:Int))))
      go_wp2_with fail
      refine wp_gen (fun V=>Bk w V [(w.heap.size+1,223,#[.int .i64 6,.int .i64 40,.int .i64 (40+256*(x4:Int)+(x5:Int)),.int .i64 (p6:Int)]),(w.heap.size,223,zh)]) HB2.out ?_;intro V HV;have HV:=Lib.hid HV;clear HB HB1 HB2 d0 d1 d2 d3 f2;have d0:=Blk.cell (HV.out.nth 0 rfl) 0 (v:= .int .i64 6) rfl;have d1:=Blk.cell (HV.out.nth 0 rfl) 1 (v:= .int .i64 40) rfl;have d2:=Blk.cell (HV.out.nth 0 rfl) 2 (v:= .int .i64 (40+256*(x4:Int)+(x5:Int))) rfl;have d3:=Blk.cell (HV.out.nth 0 rfl) 3 (v:= .int .i64 (p6:Int)) rfl
      go_wp2_with fail
      refine Go.Proofs.YtibjkhepedfpiaaGreatDoor.Q.region_ext_tail 17 (by kernel_rfl) (by kernel_rfl) ?_;simp only[List.take_succ_cons,List.take_zero,List.drop_succ_cons,List.drop_zero]
      repeat (go_big_quiet_step (fail))
      refine wpQuiet_nil ?_;rintro w9 ⟨pq,rfl⟩;have HB3:=Lib.hid (HV.out.px pq);refine wpList_store_blk (g:=w.heap.size+1) (T:=223) (cs':= #[.int .i64 4,.int .i64 (4*((x:Int)%16)),.int .i64 (256*(x2:Int)+(x3:Int)),.int .i64 (p9:Int)]) rfl 223 _ _ rfl rfl rfl (HB3.out.nth 0 rfl) (by kernel_rfl) (by kernel_rfl) (by kernel_rfl) (by kernel_rfl) ?_;intro V2 hV2 hgr hsz
      have HF:=Lib.hid (show Bk w V2 [(w.heap.size+1,223,#[.int .i64 4,.int .i64 (4*((x:Int)%16)),.int .i64 (256*(x2:Int)+(x3:Int)),.int .i64 (p9:Int)]),(w.heap.size,223,zh)]from⟨HB3.out.be.trans (below_of_only hgr HB3.out.size (fun k hk=>by injection hk with hk;omega)),fun x hx=>by
       rcases List.mem_cons.1 hx with rfl|hx
       ·exact hV2
       ·rcases List.mem_cons.1 hx with rfl|hx
        ·exact Blk.grown (HB3.out.nth 1 rfl) hgr (by simp)
        ·cases hx⟩)
      clear hV2 hgr hsz HB3 HV d0 d1 d2 d3;have d0:=Blk.cell (HF.out.nth 0 rfl) 0 (v:= .int .i64 4) rfl;have d1:=Blk.cell (HF.out.nth 0 rfl) 1 (v:= .int .i64 (4*((x:Int)%16))) rfl;have d2:=Blk.cell (HF.out.nth 0 rfl) 2 (v:= .int .i64 (256*(x2:Int)+(x3:Int))) rfl;have d3:=Blk.cell (HF.out.nth 0 rfl) 3 (v:= .int .i64 (p9:Int)) rfl
      go_wp2_with (refine wpList_store_blk (g:=w.heap.size) (T:=223) (cs':=zh) rfl 223 _ _ rfl rfl rfl (HF.out.nth 1 rfl) (by kernel_rfl) (by kernel_rfl) (by kernel_rfl) (by kernel_rfl) ?_;intro W9 hW9 hg9 hz9)
      have hVE:=HF.out.be.trans (below_of_only hg9 HF.out.be.size (fun k hk=>by injection hk with hk;omega));exact bodyPost_ret (v:= .tuple #[.agg zh,.int .i64 12]) (by refine res_row (fn:=Tryz.f115) (p:=2) (q:=3) rfl _ _ w.heap.size 223 _ (0,0) _ ?_ hW9 Tryz.underlying223 rfl (by kernel_rfl);rfl) rfl ⟨by first|(rw[HE.out.1,HE.out.2];rfl),hVE⟩
     ·have t5:decide (256*(x2:Int)+x3<4*((x:Int)%16))=false:=by simpa using p2
      rw[if_neg (by omega)]at g1;by_cases p3:4080<256*(x2:Int)+x3
      ·have t6:decide (4080<256*(x2:Int)+x3)=true:=by simpa using p3
       have HE:=Lib.hid (pk_zero (g1.trans (if_pos p3)) (by decide));clear g1 g2 p1 p2 p3
       go_enter Tryz.func115,Tryz.ntmps115
       go_wp2_with fail
       refine Go.Proofs.YtibjkhepedfpiaaGreatDoor.Q.region_ext_tail 10 (by kernel_rfl) (by kernel_rfl) ?_;simp only[List.take_succ_cons,List.take_zero,List.drop_succ_cons,List.drop_zero]
       repeat (go_big_quiet_step (fail))
       refine wpQuiet_nil ?_;rintro w9 ⟨pq,rfl⟩;have HB1:=Lib.hid (HB.out.px pq);have d0:=Blk.cell (HB1.out.nth 0 rfl) 0 (v:= .int .i64 6) rfl;have d1:=Blk.cell (HB1.out.nth 0 rfl) 1 (v:= .int .i64 40) rfl;have d2:=Blk.cell (HB1.out.nth 0 rfl) 2 (v:= .int .i64 0) rfl;have d3:=Blk.cell (HB1.out.nth 0 rfl) 3 (v:= .int .i64 (p6:Int)) rfl;have f2:=Blk.frozen (HB1.out.nth 0 rfl) 2;have HB2:=Lib.hid (bk_put1 HB1.out (Nat.le_succ _) (by simp) 2 (.int .i64 (40+256*(x4:Int)+(x5:Int))))
       go_wp2_with fail
       refine wp_gen (fun V=>Bk w V [(w.heap.size+1,223,#[.int .i64 6,.int .i64 40,.int .i64 (40+256*(x4:Int)+(x5:Int)),.int .i64 (p6:Int)]),(w.heap.size,223,zh)]) HB2.out ?_;intro V HV;have HV:=Lib.hid HV;clear HB HB1 HB2 d0 d1 d2 d3 f2;have d0:=Blk.cell (HV.out.nth 0 rfl) 0 (v:= .int .i64 6) rfl;have d1:=Blk.cell (HV.out.nth 0 rfl) 1 (v:= .int .i64 40) rfl;have d2:=Blk.cell (HV.out.nth 0 rfl) 2 (v:= .int .i64 (40+256*(x4:Int)+(x5:Int))) rfl;have d3:=Blk.cell (HV.out.nth 0 rfl) 3 (v:= .int .i64 (p6:Int)) rfl
       go_wp2_with fail
       refine Go.Proofs.YtibjkhepedfpiaaGreatDoor.Q.region_ext_tail 17 (by kernel_rfl) (by kernel_rfl) ?_;simp only[List.take_succ_cons,List.take_zero,List.drop_succ_cons,List.drop_zero]
       repeat (go_big_quiet_step (fail))
       refine wpQuiet_nil ?_;rintro w9 ⟨pq,rfl⟩;have HB3:=Lib.hid (HV.out.px pq);refine wpList_store_blk (g:=w.heap.size+1) (T:=223) (cs':= #[.int .i64 4,.int .i64 (4*((x:Int)%16)),.int .i64 (256*(x2:Int)+(x3:Int)),.int .i64 (p9:Int)]) rfl 223 _ _ rfl rfl rfl (HB3.out.nth 0 rfl) (by kernel_rfl) (by kernel_rfl) (by kernel_rfl) (by kernel_rfl) ?_;intro V2 hV2 hgr hsz
       have HF:=Lib.hid (show Bk w V2 [(w.heap.size+1,223,#[.int .i64 4,.int .i64 (4*((x:Int)%16)),.int .i64 (256*(x2:Int)+(x3:Int)),.int .i64 (p9:Int)]),(w.heap.size,223,zh)]from⟨HB3.out.be.trans (below_of_only hgr HB3.out.size (fun k hk=>by injection hk with hk;omega)),fun x hx=>by
        rcases List.mem_cons.1 hx with rfl|hx
        ·exact hV2
        ·rcases List.mem_cons.1 hx with rfl|hx
         ·exact Blk.grown (HB3.out.nth 1 rfl) hgr (by simp)
         ·cases hx⟩)
       clear hV2 hgr hsz HB3 HV d0 d1 d2 d3;have d0:=Blk.cell (HF.out.nth 0 rfl) 0 (v:= .int .i64 4) rfl;have d1:=Blk.cell (HF.out.nth 0 rfl) 1 (v:= .int .i64 (4*((x:Int)%16))) rfl;have d2:=Blk.cell (HF.out.nth 0 rfl) 2 (v:= .int .i64 (256*(x2:Int)+(x3:Int))) rfl;have d3:=Blk.cell (HF.out.nth 0 rfl) 3 (v:= .int .i64 (p9:Int)) rfl
       go_wp2_with (refine wpList_store_blk (g:=w.heap.size) (T:=223) (cs':=zh) rfl 223 _ _ rfl rfl rfl (HF.out.nth 1 rfl) (by kernel_rfl) (by kernel_rfl) (by kernel_rfl) (by kernel_rfl) ?_;intro W9 hW9 hg9 hz9)
       have hVE:=HF.out.be.trans (below_of_only hg9 HF.out.be.size (fun k hk=>by injection hk with hk;omega));exact bodyPost_ret (v:= .tuple #[.agg zh,.int .i64 15]) (by refine res_row (fn:=Tryz.f115) (p:=2) (q:=3) rfl _ _ w.heap.size 223 _ (0,0) _ ?_ hW9 Tryz.underlying223 rfl (by kernel_rfl);rfl) rfl ⟨by first|(rw[HE.out.1,HE.out.2];rfl),hVE⟩
      ·have t6:decide (4080<256*(x2:Int)+x3)=false:=by simpa using p3
       rw[if_neg p3]at g1;have HE:=Lib.hid (And.intro g1 (g2.trans (if_pos g1)));clear g1 g2 p1 p2 p3
       go_enter Tryz.func115,Tryz.ntmps115
       go_wp2_with fail
       refine Go.Proofs.YtibjkhepedfpiaaGreatDoor.Q.region_ext_tail 10 (by kernel_rfl) (by kernel_rfl) ?_;simp only[List.take_succ_cons,List.take_zero,List.drop_succ_cons,List.drop_zero]
       repeat (go_big_quiet_step (fail))
       refine wpQuiet_nil ?_;rintro w9 ⟨pq,rfl⟩;have HB1:=Lib.hid (HB.out.px pq);have d0:=Blk.cell (HB1.out.nth 0 rfl) 0 (v:= .int .i64 6) rfl;have d1:=Blk.cell (HB1.out.nth 0 rfl) 1 (v:= .int .i64 40) rfl;have d2:=Blk.cell (HB1.out.nth 0 rfl) 2 (v:= .int .i64 0) rfl;have d3:=Blk.cell (HB1.out.nth 0 rfl) 3 (v:= .int .i64 (p6:Int)) rfl;have f2:=Blk.frozen (HB1.out.nth 0 rfl) 2;have HB2:=Lib.hid (bk_put1 HB1.out (Nat.le_succ _) (by simp) 2 (.int .i64 (40+256*(x4:Int)+(x5:Int))))
       go_wp2_with fail
       refine wp_gen (fun V=>Bk w V [(w.heap.size+1,223,#[.int .i64 6,.int .i64 40,.int .i64 (40+256*(x4:Int)+(x5:Int)),.int .i64 (p6:Int)]),(w.heap.size,223,zh)]) HB2.out ?_;intro V HV;have HV:=Lib.hid HV;clear HB HB1 HB2 d0 d1 d2 d3 f2;have d0:=Blk.cell (HV.out.nth 0 rfl) 0 (v:= .int .i64 6) rfl;have d1:=Blk.cell (HV.out.nth 0 rfl) 1 (v:= .int .i64 40) rfl;have d2:=Blk.cell (HV.out.nth 0 rfl) 2 (v:= .int .i64 (40+256*(x4:Int)+(x5:Int))) rfl;have d3:=Blk.cell (HV.out.nth 0 rfl) 3 (v:= .int .i64 (p6:Int)) rfl
       go_wp2_with fail
       refine Go.Proofs.YtibjkhepedfpiaaGreatDoor.Q.region_ext_tail 17 (by kernel_rfl) (by kernel_rfl) ?_;simp only[List.take_succ_cons,List.take_zero,List.drop_succ_cons,List.drop_zero]
       repeat (go_big_quiet_step (fail))
       refine wpQuiet_nil ?_;rintro w9 ⟨pq,rfl⟩;have HB3:=Lib.hid (HV.out.px pq);refine wpList_store_blk (g:=w.heap.size+1) (T:=223) (cs':= #[.int .i64 4,.int .i64 (4*((x:Int)%16)),.int .i64 (256*(x2:Int)+(x3:Int)),.int .i64 (p9:Int)]) rfl 223 _ _ rfl rfl rfl (HB3.out.nth 0 rfl) (by kernel_rfl) (by kernel_rfl) (by kernel_rfl) (by kernel_rfl) ?_;intro V2 hV2 hgr hsz
       have HF:=Lib.hid (show Bk w V2 [(w.heap.size+1,223,#[.int .i64 4,.int .i64 (4*((x:Int)%16)),.int .i64 (256*(x2:Int)+(x3:Int)),.int .i64 (p9:Int)]),(w.heap.size,223,zh)]from⟨HB3.out.be.trans (below_of_only hgr HB3.out.size (fun k hk=>by injection hk with hk;omega)),fun x hx=>by
        rcases List.mem_cons.1 hx with rfl|hx
        ·exact hV2
        ·rcases List.mem_cons.1 hx with rfl|hx
         ·exact Blk.grown (HB3.out.nth 1 rfl) hgr (by simp)
         ·cases hx⟩)
       clear hV2 hgr hsz HB3 HV d0 d1 d2 d3;have d0:=Blk.cell (HF.out.nth 0 rfl) 0 (v:= .int .i64 4) rfl;have d1:=Blk.cell (HF.out.nth 0 rfl) 1 (v:= .int .i64 (4*((x:Int)%16))) rfl;have d2:=Blk.cell (HF.out.nth 0 rfl) 2 (v:= .int .i64 (256*(x2:Int)+(x3:Int))) rfl;have d3:=Blk.cell (HF.out.nth 0 rfl) 3 (v:= .int .i64 (p9:Int)) rfl
       go_wp2_with (refine wpList_store_blk (g:=w.heap.size) (T:=223) (cs':= #[.int .i64 4,.int .i64 (4*((x:Int)%16)),.int .i64 (256*(x2:Int)+(x3:Int)),.int .i64 (p9:Int)]) rfl 223 _ _ rfl rfl rfl (HF.out.nth 1 rfl) (by kernel_rfl) (by kernel_rfl) (by kernel_rfl) (by kernel_rfl) ?_;intro W9 hW9 hg9 hz9)
       have hVE:=HF.out.be.trans (below_of_only hg9 HF.out.be.size (fun k hk=>by injection hk with hk;omega));exact bodyPost_ret (v:= .tuple #[.agg #[.int .i64 4,.int .i64 (4*((x:Int)%16)),.int .i64 (256*(x2:Int)+(x3:Int)),.int .i64 (p9:Int)],.int .i64 0]) (by refine res_row (fn:=Tryz.f115) (p:=2) (q:=3) rfl _ _ w.heap.size 223 _ (0,0) _ ?_ hW9 Tryz.underlying223 rfl (by kernel_rfl);rfl) rfl ⟨by rw[HE.out.1,HE.out.2];rfl,hVE⟩
  ·by_cases v6:x/16=6
   ·obtain⟨g1,g2⟩:=e6 v6
    have q1:(x:Int)/16=6:=by omega
    have q2:(x:Int).tdiv 16=6:=by rw[Int.tdiv_eq_ediv_of_nonneg (by omega)];exact q1
    by_cases hl:s.size<40
    ·have t3:decide ((s.size:Int)<40)=true:=by simp;omega
     rw[if_pos hl]at g1;have HE:=Lib.hid (pk_zero g1 (by decide));clear e4 e6 e0 v4 v6 g1 g2 hl hd4e hd6e hx l0 h0
     go_enter Tryz.func115,Tryz.ntmps115
     go_wp2_with (refine wpList_store_blk (g:=w.heap.size) (T:=223) (cs':=zh) rfl 223 _ _ rfl rfl rfl (HB0.out.nth 0 rfl) (by kernel_rfl) (by kernel_rfl) (by kernel_rfl) (by kernel_rfl) ?_;intro W9 hW9 hg9 hz9)
     have hVE:=HB0.out.be.trans (below_of_only hg9 HB0.out.be.size (fun k hk=>by injection hk with hk;omega));exact bodyPost_ret (v:= .tuple #[.agg zh,.int .i64 10]) (by refine res_row (fn:=Tryz.f115) (p:=2) (q:=3) rfl _ _ w.heap.size 223 _ (0,0) _ ?_ hW9 Tryz.underlying223 rfl (by kernel_rfl);rfl) rfl ⟨by first|(rw[HE.out.1,HE.out.2];rfl),hVE⟩
    ·have t3:decide ((s.size:Int)<40)=false:=by simp;omega
     rw[if_neg hl]at g1;have i4: ∀V:World,(Instr.index 9 (.string s) (.int .i64 4)).run Tryz.prog V= .ok (.int .u8 (at0 s 4:Int)) V:=fun V=>idx_at s 4 (by omega) V;have l4:=at0_lt s 4;obtain⟨x4,hx4⟩: ∃x,at0 s 4=x:=⟨_,rfl⟩;rw[hx4]at i4 l4;have z4:(x4:Int)≤255:=by omega
     have i5: ∀V:World,(Instr.index 9 (.string s) (.int .i64 5)).run Tryz.prog V= .ok (.int .u8 (at0 s 5:Int)) V:=fun V=>idx_at s 5 (by omega) V;have l5:=at0_lt s 5;obtain⟨x5,hx5⟩: ∃x,at0 s 5=x:=⟨_,rfl⟩;rw[hx5]at i5 l5;have z5:(x5:Int)≤255:=by omega
     have i6: ∀V:World,(Instr.index 9 (.string s) (.int .i64 6)).run Tryz.prog V= .ok (.int .u8 (at0 s 6:Int)) V:=fun V=>idx_at s 6 (by omega) V;have l6:=at0_lt s 6;obtain⟨p6,hp6⟩: ∃x,at0 s 6=x:=⟨_,rfl⟩;rw[hp6]at i6 l6;have z6:(p6:Int)≤255:=by omega
     rw[hx4,hx5,hp6]at hd6e;rw[hd6e]at g1 g2;unfold hdE at g1;dsimp only at g1;have t5:decide (40+256*(x4:Int)+x5<40)=false:=by simp;omega
     have HB:=Lib.hid (bk2 w 223 223 zh #[.int .i64 6,.int .i64 40,.int .i64 0,.int .i64 (p6:Int)]);clear e4 e6 e0 v4 v6 hl hd4e hd6e hx hx4 hx5 hp6 l0 l4 l5 l6 h0;rw[if_neg (by omega)]at g1;by_cases p3:4080<40+(256*(x4:Int)+x5)
     ·have t6:decide (4080<40+256*(x4:Int)+x5)=true:=by simp;omega
      have HE:=Lib.hid (pk_zero (g1.trans (if_pos p3)) (by decide));clear g1 g2 p3
      go_enter Tryz.func115,Tryz.ntmps115
      go_wp2_with fail
      refine Go.Proofs.YtibjkhepedfpiaaGreatDoor.Q.region_ext_tail 10 (by kernel_rfl) (by kernel_rfl) ?_;simp only[List.take_succ_cons,List.take_zero,List.drop_succ_cons,List.drop_zero]
      repeat (go_big_quiet_step (fail))
      refine wpQuiet_nil ?_;rintro w9 ⟨pq,rfl⟩;have HB1:=Lib.hid (HB.out.px pq);have d0:=Blk.cell (HB1.out.nth 0 rfl) 0 (v:= .int .i64 6) rfl;have d1:=Blk.cell (HB1.out.nth 0 rfl) 1 (v:= .int .i64 40) rfl;have d2:=Blk.cell (HB1.out.nth 0 rfl) 2 (v:= .int .i64 0) rfl;have d3:=Blk.cell (HB1.out.nth 0 rfl) 3 (v:= .int .i64 (p6:Int)) rfl;have f2:=Blk.frozen (HB1.out.nth 0 rfl) 2;have HB2:=Lib.hid (bk_put1 HB1.out (Nat.le_succ _) (by simp) 2 (.int .i64 (40+256*(x4:Int)+(x5:Int))))
      go_wp2_with (refine wpList_store_blk (g:=w.heap.size) (T:=223) (cs':=zh) rfl 223 _ _ rfl rfl rfl (HB2.out.nth 1 rfl) (by kernel_rfl) (by kernel_rfl) (by kernel_rfl) (by kernel_rfl) ?_;intro W9 hW9 hg9 hz9)
      have hVE:=HB2.out.be.trans (below_of_only hg9 HB2.out.be.size (fun k hk=>by injection hk with hk;omega));exact bodyPost_ret (v:= .tuple #[.agg zh,.int .i64 15]) (by refine res_row (fn:=Tryz.f115) (p:=2) (q:=3) rfl _ _ w.heap.size 223 _ (0,0) _ ?_ hW9 Tryz.underlying223 rfl (by kernel_rfl);rfl) rfl ⟨by first|(rw[HE.out.1,HE.out.2];rfl),hVE⟩
     ·have t6:decide (4080<40+256*(x4:Int)+x5)=false:=by simp;omega
      rw[if_neg p3]at g1;have HE:=Lib.hid (And.intro g1 (g2.trans (if_pos g1)));have HQ:=Lib.hid (show 40+(256*(x4:Int)+x5)=40+256*(x4:Int)+x5 by omega);clear g1 g2 p3
      go_enter Tryz.func115,Tryz.ntmps115
      go_wp2_with fail
      refine Go.Proofs.YtibjkhepedfpiaaGreatDoor.Q.region_ext_tail 10 (by kernel_rfl) (by kernel_rfl) ?_;simp only[List.take_succ_cons,List.take_zero,List.drop_succ_cons,List.drop_zero]
      repeat (go_big_quiet_step (fail))
      refine wpQuiet_nil ?_;rintro w9 ⟨pq,rfl⟩;have HB1:=Lib.hid (HB.out.px pq);have d0:=Blk.cell (HB1.out.nth 0 rfl) 0 (v:= .int .i64 6) rfl;have d1:=Blk.cell (HB1.out.nth 0 rfl) 1 (v:= .int .i64 40) rfl;have d2:=Blk.cell (HB1.out.nth 0 rfl) 2 (v:= .int .i64 0) rfl;have d3:=Blk.cell (HB1.out.nth 0 rfl) 3 (v:= .int .i64 (p6:Int)) rfl;have f2:=Blk.frozen (HB1.out.nth 0 rfl) 2;have HB2:=Lib.hid (bk_put1 HB1.out (Nat.le_succ _) (by simp) 2 (.int .i64 (40+256*(x4:Int)+(x5:Int))))
      go_wp2_with (refine wpList_store_blk (g:=w.heap.size) (T:=223) (cs':= #[.int .i64 6,.int .i64 40,.int .i64 (40+256*(x4:Int)+(x5:Int)),.int .i64 (p6:Int)]) rfl 223 _ _ rfl rfl rfl (HB2.out.nth 1 rfl) (by kernel_rfl) (by kernel_rfl) (by kernel_rfl) (by kernel_rfl) ?_;intro W9 hW9 hg9 hz9)
      have hVE:=HB2.out.be.trans (below_of_only hg9 HB2.out.be.size (fun k hk=>by injection hk with hk;omega));exact bodyPost_ret (v:= .tuple #[.agg #[.int .i64 6,.int .i64 40,.int .i64 (40+256*(x4:Int)+(x5:Int)),.int .i64 (p6:Int)],.int .i64 0]) (by refine res_row (fn:=Tryz.f115) (p:=2) (q:=3) rfl _ _ w.heap.size 223 _ (0,0) _ ?_ hW9 Tryz.underlying223 rfl (by kernel_rfl);rfl) rfl ⟨by rw[HE.out.1,HE.out.2,HQ.out];rfl,hVE⟩
   ·have HE:=Lib.hid (pk_zero (e0 v4 v6) (by decide))
    obtain⟨v,hv⟩: ∃v:Int,(x:Int)/16=v:=⟨_,rfl⟩;have q2:(x:Int).tdiv 16=v:=by rw[Int.tdiv_eq_ediv_of_nonneg (by omega)];exact hv
    have t1:(v !=4)=true:=by simp;omega
    have t2:(v !=6)=true:=by simp;omega
    clear e4 e6 e0 v4 v6 hd4e hd6e hx l0 h0
    go_enter Tryz.func115,Tryz.ntmps115
    go_wp2_with (refine wpList_store_blk (g:=w.heap.size) (T:=223) (cs':=zh) rfl 223 _ _ rfl rfl rfl (HB0.out.nth 0 rfl) (by kernel_rfl) (by kernel_rfl) (by kernel_rfl) (by kernel_rfl) ?_;intro W9 hW9 hg9 hz9)
    have hVE:=HB0.out.be.trans (below_of_only hg9 HB0.out.be.size (fun k hk=>by injection hk with hk;omega));exact bodyPost_ret (v:= .tuple #[.agg zh,.int .i64 14]) (by refine res_row (fn:=Tryz.f115) (p:=2) (q:=3) rfl _ _ w.heap.size 223 _ (0,0) _ ?_ hW9 Tryz.underlying223 rfl (by kernel_rfl);rfl) rfl ⟨by first|(rw[HE.out.1,HE.out.2];rfl),hVE⟩
end Go.Proofs.YtibjkhepedfpiaaGreatDoor.DgF
namespace Go.Proofs.YtibjkhepedfpiaaGreatDoor.DgG
open Go Go.RowKit Q Mem Rg Ap St BiH SeI SeEq DgP DgB DgC DgD DgF
set_option maxRecDepth 100000
set_option maxHeartbeats 800000 in
theorem rcheck_any (s:ByteArray) (w:World) (hs:s.size≤1099511627776):Calls Tryz.prog 77 #[.string s] w fun e w'=>e= .returned (.int .i64 (dgE s))∧Below w.heap.size w w':=by
 have kp:=fun V=>rpeek_any s V hs;have hd:dgE s=if pkE s≠0 then pkE s else if(s.size:Int)<(pkH s).length then 10 else if(pkH s).length<s.size then 11 else if(pkH s).ver=4∧dsum (s.extract 0 (pkH s).header.toNat)≠0 then 13 else 0:=rfl;have hok:= @pk_ok s;obtain⟨H,hH⟩: ∃H,pkH s=H:=⟨_,rfl⟩;rw[hH]at kp hd hok;obtain⟨E,hE⟩: ∃E,pkE s=E:=⟨_,rfl⟩;rw[hE]at kp hd hok;obtain⟨D,hD⟩: ∃D,dgE s=D:=⟨_,rfl⟩;rw[hD]at hd ⊢;clear hH hE hD;obtain⟨ve,he,le,pr⟩:=H;unfold Hd.vals at kp;dsimp only at*;by_cases g1:E=0
 ·obtain⟨hv,o1,o2,o3⟩:=hok g1
  rw[if_neg (by simpa using g1)]at hd;subst g1;by_cases g2:(s.size:Int)<le
  ·have t2:decide ((s.size:Int)<le)=true:=by simpa using g2
   rw[if_pos g2]at hd;subst hd;clear g2 hok hv o1 o2 o3
   go_enter Tryz.func77,Tryz.ntmps77
   go_wp2_with fail
   (with_reducible refine(kp _).mono ?_);rintro e1 W1 ⟨rfl,hb1⟩
   have hE:=hb1.alloc hb1.size (.cells #[.int .i64 ve,.int .i64 he,.int .i64 le,.int .i64 pr] 223)
   go_wp2_with fail
   go_ret;exact⟨rfl,hE⟩
  ·have t2:decide ((s.size:Int)<le)=false:=by simpa using g2
   rw[if_neg g2]at hd;by_cases g3:le<(s.size:Int)
   ·have t3:decide (le<(s.size:Int))=true:=by simpa using g3
    rw[if_pos g3]at hd;subst hd;clear g2 g3 hok hv o1 o2 o3
    go_enter Tryz.func77,Tryz.ntmps77
    go_wp2_with fail
    (with_reducible refine(kp _).mono ?_);rintro e1 W1 ⟨rfl,hb1⟩
    have hE:=hb1.alloc hb1.size (.cells #[.int .i64 ve,.int .i64 he,.int .i64 le,.int .i64 pr] 223)
    go_wp2_with fail
    go_ret;exact⟨rfl,hE⟩
   ·have t3:decide (le<(s.size:Int))=false:=by simpa using g3
    rw[if_neg g3]at hd;by_cases g4:ve=4
    ·have t4:(ve==4)=true:=by simpa using g4
     obtain⟨n,rfl⟩: ∃n:Nat,he=(n:Int):=⟨he.toNat,by omega⟩;rw[Int.toNat_natCast]at hd;have z1:(n:Int)≤(s.size:Int):=by omega
     have ks:=fun V=>rsum_any (s.extract 0 n) V (by rw[ByteArray.size_extract];omega);obtain⟨M,hM⟩: ∃M,dsum (s.extract 0 n)=M:=⟨_,rfl⟩;rw[hM]at ks hd
     have t5:((M:Int)!=0)=decide (M≠0):=by
      by_cases hm:M=0<;>simp[hm]
     have HD:=Lib.hid hd;clear g2 g3 hok hv o1 o2 o3 hM hd;subst g4
     go_enter Tryz.func77,Tryz.ntmps77
     go_wp2_with fail
     (with_reducible refine(kp _).mono ?_);rintro e1 W1 ⟨rfl,hb1⟩
     have hE:=hb1.alloc hb1.size (.cells #[.int .i64 4,.int .i64 (n:Int),.int .i64 le,.int .i64 pr] 223)
     go_wp2_with fail
     (with_reducible refine(ks _).mono ?_);rintro e1 W2 ⟨rfl,rfl⟩
     by_cases hm:M=0
     ·have HD:=Lib.hid (HD.out.trans (if_neg (fun h=>h.2 hm)))
      have t6:((M:Int)!=0)=false:=by simp[hm]
      clear ks hb1 kp hm t5
      go_wp2_with fail
      go_ret;exact⟨by rw[HD.out];rfl,hE⟩
     ·rw[decide_eq_true hm]at t5
      have HD:=Lib.hid (HD.out.trans (if_pos ⟨trivial,hm⟩));clear ks hb1 kp hm
      go_wp2_with fail
      go_ret;exact⟨by rw[HD.out];rfl,hE⟩
    ·have t4:(ve==4)=false:=by simpa using g4
     rw[if_neg (fun h=>g4 h.1)]at hd;subst hd;clear g2 g3 g4 hok hv o1 o2 o3
     go_enter Tryz.func77,Tryz.ntmps77
     go_wp2_with fail
     (with_reducible refine(kp _).mono ?_);rintro e1 W1 ⟨rfl,hb1⟩
     have hE:=hb1.alloc hb1.size (.cells #[.int .i64 ve,.int .i64 he,.int .i64 le,.int .i64 pr] 223)
     go_wp2_with fail
     go_ret;exact⟨rfl,hE⟩
 ·rw[if_pos g1]at hd
  subst hd;have t1:(D !=0)=true:=by simpa using g1
  clear g1 hok
  go_enter Tryz.func77,Tryz.ntmps77
  go_wp2_with fail
  (with_reducible refine(kp _).mono ?_);rintro e1 W1 ⟨rfl,hb1⟩
  have hE:=hb1.alloc hb1.size (.cells #[.int .i64 ve,.int .i64 he,.int .i64 le,.int .i64 pr] 223)
  go_wp2_with fail
  go_ret;exact⟨rfl,hE⟩
end Go.Proofs.YtibjkhepedfpiaaGreatDoor.DgG
namespace Go.Proofs.YtibjkhepedfpiaaGreatDoor.DgM
open Go Go.RowKit Q Mem Rg Ap St Ints BiH SeI SeEq DgP DgB DgC DgD
set_option maxRecDepth 100000 in
theorem text7_any (a:Option Addr) (c m:Nat) (L:List Int) (w:World) (hm:L.length=m) (hl:L.length≤1000) (hL:Ints w a L) (hv:inB 255 L=true):
 Calls Tryz.prog 96 #[.slice a m c] w fun e w'=>e= .returned (.string (strOfNums L))∧Below w.heap.size w w':=by
 subst hm;have HL:=Lib.hid hL;clear hL
 go_enter Tryz.func96,Tryz.ntmps96
 go_wp2_with fail
 go_loopw [3,4] (fun out i wr=> ∃(k:Nat) (b:ByteArray),k≤L.length∧out= .string b∧i= .int .i64 k∧Hid (b=strOfNums (L.take k))∧b.size≤k∧Below w.heap.size w wr) (fun _ i _=>L.length-(intOf i).toNat)
 case atStart=>exact⟨0,nob,by omega,rfl,rfl,Lib.hid rfl,Nat.zero_le _,Below.refl _ _⟩
 case round=>
  obtain⟨k,b,hk,rfl,rfl,hI,hbs,hb⟩:=hrel;by_cases hkl:k<L.length
  ·have t0:decide (k<L.length)=true:=by simpa using hkl
   obtain⟨x,hx⟩: ∃x,L[k]? =some x:=⟨L[k],List.getElem?_eq_getElem hkl⟩
   have hx1:0≤x∧x≤255:=by
    have:=List.all_eq_true.1 hv x (List.mem_of_getElem? hx);simpa [in1]using this
   obtain⟨b1,o1,rfl,l1,c1⟩:=HL.out.below (Nat.le_refl _) hb k x hx;have q2:IntKind.u8.wrap x=x:=by rw[IntKind.wrap_u8];omega
   have hcv:=conv_new wr [x] 1 wr.heap.size #[.int .u8 x] rfl rfl rfl;have hadd: ∀U:World,(Op.stringOp .add b (strOfNums [x])).run Tryz.prog U= .ok (.string (b++strOfNums [x])) U:=fun U=>run_string_add_sum U _ _ (by rw[son_size];simp only[List.length_cons,List.length_nil];omega)
   have hnew:b++strOfNums [x]=strOfNums (L.take (k+1)):=by
    rw[hI.out,son_append,List.take_add_one,hx];rfl
   have hbs2:(b++strOfNums [x]).size≤k+1:=by rw[ByteArray.size_append,son_size];simp only[List.length_cons,List.length_nil];omega
   have HN:=Lib.hid hnew;have hb2:=hb.alloc hb.size (.cells #[.int .u8 x] 5);clear hnew hx hx1 hb hv
   go_wp2_with fail
   go_roundw
   case rel=>exact⟨k+1,_,by omega,rfl,by go_num,HN,hbs2,hb2⟩
   case measure=>simp[intOf];omega
  ·obtain rfl:k=L.length:=by omega
   have t0:decide (L.length<L.length)=false:=by simp
   have HB:=Lib.hid (hI.out.trans (by rw[List.take_length]));clear hI
   go_wp2_with fail
   go_ret;exact⟨by rw[HB.out];rfl,hb⟩
def mkN (n:Nat) (p:Int):List Int:=[69,0,(n:Int)/256,(n:Int)%256,0,0,0,0,64,p]
def mkC (f t:ByteArray) (p:Int) (n:Nat):Nat:=dsum (strOfNums (mkN n p)++str [0,0]++f++t)
def mkD (f t:ByteArray) (p:Int) (b:ByteArray):ByteArray:=
 strOfNums (mkN (20+b.size) p)++strOfNums [(mkC f t p (20+b.size):Int)/256,(mkC f t p (20+b.size):Int)%256]++f++t++b
set_option maxRecDepth 100000
set_option maxHeartbeats 800000 in
theorem make_any (f t b:ByteArray) (p:Int) (w:World) (hf:f.size≤16) (ht:t.size≤16) (hb:b.size≤4060) (hp:0≤p∧p≤255):Calls Tryz.prog 65 #[.string f,.string t,.int .i64 p,.string b] w fun e w'=>e= .returned (.tuple #[.string (mkD f t p b),.int .i64 0])∧Below w.heap.size w w':=by
 obtain⟨hp1,hp2⟩:=hp;have HT:=Lib.hid (fun(a:Option Addr) (W:World) (h:Ints W a (mkN (20+b.size) p))=>text7_any a 10 10 (mkN (20+b.size) p) W rfl (by simp[mkN]) h (by simp[inB,in1,mkN];omega));have HT2:=Lib.hid (fun(a:Option Addr) (W:World) (c:Nat) (hc:c≤65535) (h:Ints W a [(c:Int)/256,(c:Int)%256])=>text7_any a 2 2 [(c:Int)/256,(c:Int)%256] W rfl (by simp) h (by simp[inB,in1];omega));have ks:=fun V=>rsum_any (strOfNums (mkN (20+b.size) p)++str [0,0]++f++t) V (by rw[ByteArray.size_append,ByteArray.size_append,ByteArray.size_append,son_size,str_size];simp[mkN];omega);have hN:mkN (20+b.size) p=[69,0,(20+(b.size:Int))/256,(20+(b.size:Int))%256,0,0,0,0,64,p]:=by unfold mkN;simp
 have hD:mkD f t p b=strOfNums (mkN (20+b.size) p)++strOfNums [(mkC f t p (20+b.size):Int)/256,(mkC f t p (20+b.size):Int)%256]++f++t++b:=rfl;have hcle:mkC f t p (20+b.size)≤65535:=dsum_le _;have hsz:(strOfNums (mkN (20+b.size) p)).size=10:=by rw[son_size];rfl
 rw[show dsum (strOfNums (mkN (20+b.size) p)++str [0,0]++f++t)=mkC f t p (20+b.size)from rfl]at ks;obtain⟨C,hC⟩: ∃C,mkC f t p (20+b.size)=C:=⟨_,rfl⟩;rw[hC]at ks hD hcle;obtain⟨H,hH⟩: ∃H,strOfNums (mkN (20+b.size) p)=H:=⟨_,rfl⟩;rw[hH]at ks hD HT hsz;obtain⟨K,hK⟩: ∃K,strOfNums [(C:Int)/256,(C:Int)%256]=K:=⟨_,rfl⟩;have hks:K.size=2:=by rw[←hK,son_size];rfl
 rw[hK]at hD;have a1:=fun V=>add_at H (str [0,0]) (by rw[str_size];simp;omega) V;have a2:=fun V=>add_at (H++str [0,0]) f (by rw[ByteArray.size_append,str_size];simp;omega) V;have a3:=fun V=>add_at (H++str [0,0]++f) t (by rw[ByteArray.size_append,ByteArray.size_append,str_size];simp;omega) V;have b1:=fun V=>add_at H K (by omega) V;have b2:=fun V=>add_at (H++K) f (by rw[ByteArray.size_append];omega) V;have b3:=fun V=>add_at (H++K++f) t (by rw[ByteArray.size_append,ByteArray.size_append];omega) V;have b4:=fun V=>add_at (H++K++f++t) b (by rw[ByteArray.size_append,ByteArray.size_append,ByteArray.size_append];omega) V;rw[←hD]at b4;rw[show str [0,0]=(⟨#[0,0]⟩:ByteArray)from rfl]at a1 a2 a3 ks;have t1:decide (p<0)=false:=by simp;omega
 have t2:decide (255<p)=false:=by simp;omega
 have t3:decide (4080<20+(b.size:Int))=false:=by simp;omega
 have hnb:(b.size:Int)≤4060:=by omega
 have HNN:=Lib.hid hN;have HKK:=Lib.hid hK;have hC2:(C:Int)≤65535:=by omega
 have HCL:=Lib.hid hcle;clear hN hK hC hH hD hcle hsz hks hf ht hb
 go_enter Tryz.func65,Tryz.ntmps65
 go_wp2_with fail
 have k1:=HT.out _ _ (ints_blk (Blk.new w 3 #[.int .i64 69,.int .i64 0,.int .i64 ((20+(b.size:Int))/256),.int .i64 ((20+(b.size:Int))%256),.int .i64 0,.int .i64 0,.int .i64 0,.int .i64 0,.int .i64 64,.int .i64 p]) (by rw[HNN.out];rfl))
 (with_reducible refine(k1).mono ?_);rintro e1 W1 ⟨rfl,hb1⟩
 have hE1:=((Below.refl w.heap.size w).alloc (Nat.le_refl _) (.cells #[.int .i64 69,.int .i64 0,.int .i64 ((20+(b.size:Int))/256),.int .i64 ((20+(b.size:Int))%256),.int .i64 0,.int .i64 0,.int .i64 0,.int .i64 0,.int .i64 64,.int .i64 p] 3)).trans (hb1.mono (by simp));clear k1 HT hb1
 go_wp2_with fail
 (with_reducible refine(ks _).mono ?_);rintro e1 W2 ⟨rfl,rfl⟩
 clear ks a1 a2 a3
 go_wp2_with fail
 have k2:=HT2.out _ _ C HCL.out (ints_blk (Blk.new W1 3 #[.int .i64 ((C:Int)/256),.int .i64 ((C:Int)%256)]) rfl);rw[HKK.out]at k2
 (with_reducible refine(k2).mono ?_);rintro e1 W3 ⟨rfl,hb3⟩
 have hE3:=(hE1.alloc hE1.size (.cells #[.int .i64 ((C:Int)/256),.int .i64 ((C:Int)%256)] 3)).trans (hb3.mono (by simp;have:=hE1.size;omega));clear k2 HT2 hb3 hE1
 go_wp2_with fail
 go_ret2
 exact⟨rfl,hE3⟩
end Go.Proofs.YtibjkhepedfpiaaGreatDoor.DgM
namespace Go.Proofs.YtibjkhepedfpiaaGreatDoor.DgN
open Go Go.RowKit St Ints BiH DgP DgB DgC DgM
theorem at0_bl {s:ByteArray} {i:Nat} {b:UInt8} (h:(bl s)[i]? =some b):at0 s i=b.toNat:=by
 unfold at0;rw[←Array.getElem?_toList,show s.data.toList=bl s from rfl,h];rfl
theorem sum20 {X Y:ByteArray} {a b:Nat} (h: ∀i,i<20→i≠10→i≠11→at0 X i=at0 Y i) (h10:at0 X 10=a) (h11:at0 X 11=b) (g10:at0 Y 10=0) (g11:at0 Y 11=0):
 256*dh X 20+dl X 20=(256*dh Y 20+dl Y 20)+(256*a+b):=by
 have e0:=h 0 (by omega) (by omega) (by omega);have e1:=h 1 (by omega) (by omega) (by omega);have e2:=h 2 (by omega) (by omega) (by omega);have e3:=h 3 (by omega) (by omega) (by omega);have e4:=h 4 (by omega) (by omega) (by omega);have e5:=h 5 (by omega) (by omega) (by omega);have e6:=h 6 (by omega) (by omega) (by omega);have e7:=h 7 (by omega) (by omega) (by omega);have e8:=h 8 (by omega) (by omega) (by omega);have e9:=h 9 (by omega) (by omega) (by omega);have e12:=h 12 (by omega) (by omega) (by omega);have e13:=h 13 (by omega) (by omega) (by omega);have e14:=h 14 (by omega) (by omega) (by omega);have e15:=h 15 (by omega) (by omega) (by omega);have e16:=h 16 (by omega) (by omega) (by omega);have e17:=h 17 (by omega) (by omega) (by omega);have e18:=h 18 (by omega) (by omega) (by omega);have e19:=h 19 (by omega) (by omega) (by omega);simp only[dh,dl];simp only[e0,e1,e2,e3,e4,e5,e6,e7,e8,e9,e12,e13,e14,e15,e16,e17,e18,e19,h10,h11,g10,g11];simp;omega
theorem dsum_mend {X Y:ByteArray} (hX:X.size=20) (hY:Y.size=20) (h: ∀i,i<20→i≠10→i≠11→at0 X i=at0 Y i) (h10:at0 X 10=dsum Y/256) (h11:at0 X 11=dsum Y%256) (g10:at0 Y 10=0) (g11:at0 Y 11=0):dsum X=0:=by
 have hs:=sum20 h h10 h11 g10 g11;have hc:256*(dsum Y/256)+dsum Y%256=dsum Y:=by omega
 rw[hc]at hs;unfold dsum;rw[hX,hs,r15_add _ _ (dsum_le Y)];have hd:dsum Y=65535-r15 (256*dh Y 20+dl Y 20):=by unfold dsum;rw[hY]
 have hle:=r15_le (256*dh Y 20+dl Y 20);rw[if_neg (by omega)];omega
theorem mk_ok (f t b:ByteArray) (p:Int) (hf:f.size=4) (ht:t.size=4) (hb:b.size≤4060):dgE (mkD f t p b)=0∧(mkD f t p b).size=20+b.size:=by
 obtain⟨n,hn⟩: ∃n,20+b.size=n:=⟨_,rfl⟩
 have hsz:(mkD f t p b).size=n:=by
  unfold mkD;rw[ByteArray.size_append,ByteArray.size_append,ByteArray.size_append,ByteArray.size_append,son_size,son_size];simp only[mkN,List.length_cons,List.length_nil];omega
 obtain⟨C,hC⟩: ∃C,mkC f t p n=C:=⟨_,rfl⟩;have hCl:C≤65535:=by rw[←hC];exact dsum_le _
 have hbl:bl (mkD f t p b)=([69,0,UInt8.ofNat (n/256),UInt8.ofNat (n%256),0,0,0,0,64,UInt8.ofNat p.toNat,UInt8.ofNat (C/256),UInt8.ofNat (C%256)]++(bl f++(bl t++bl b))):=by
  unfold mkD;rw[hn,hC,bl_app,bl_app,bl_app,bl_app,nums_str,nums_str,bl_str,bl_str];have q1:((n:Int)/256).toNat=n/256:=by omega
  have q2:((n:Int)%256).toNat=n%256:=by omega
  have q3:((C:Int)/256).toNat=C/256:=by omega
  have q4:((C:Int)%256).toNat=C%256:=by omega
  simp only[mkN,List.map_cons,List.map_nil,q1,q2,q3,q4,List.append_assoc,List.cons_append,List.nil_append];rfl
 have hy:bl (strOfNums (mkN n p)++str [0,0]++f++t)=([69,0,UInt8.ofNat (n/256),UInt8.ofNat (n%256),0,0,0,0,64,UInt8.ofNat p.toNat,0,0]++(bl f++bl t)):=by
  rw[bl_app,bl_app,bl_app,nums_str,bl_str,bl_str];have q1:((n:Int)/256).toNat=n/256:=by omega
  have q2:((n:Int)%256).toNat=n%256:=by omega
  simp only[mkN,List.map_cons,List.map_nil,q1,q2,List.cons_append,List.nil_append];rfl
 have lf:(bl f).length=4:=by rw[bl_len];exact hf
 have lt:(bl t).length=4:=by rw[bl_len];exact ht
 match hbf:bl f,lf,hbt:bl t,lt with
 |[f0,f1,f2,f3],_,[t0,t1,t2,t3],_=>
  rw[hbf,hbt]at hbl hy;have k:=fun(i:Nat) (x:UInt8) (h:(bl (mkD f t p b))[i]? =some x)=>at0_bl h;have o: ∀m,m<256→(UInt8.ofNat m).toNat=m:=fun m hm=>by rw[UInt8.toNat_ofNat'];omega
  have a0:=k 0 69 (by rw[hbl];rfl);have a2:=k 2 (UInt8.ofNat (n/256)) (by rw[hbl];rfl);have a3:=k 3 (UInt8.ofNat (n%256)) (by rw[hbl];rfl);rw[o _ (by omega)]at a2 a3;rw[show(69:UInt8).toNat=69 from rfl]at a0
  have hh:hd4 (mkD f t p b)=⟨4,20,n,at0 (mkD f t p b) 9⟩:=by
   unfold hd4;rw[a0,a2,a3]
   congr 1
   omega
  have h1:pkE (mkD f t p b)=0:=by
   unfold pkE;rw[if_neg (by omega),a0,if_pos (by decide),if_neg (by omega),hh];unfold hdE;dsimp only;rw[if_neg (by omega),if_neg (by omega)]
  have h2:pkH (mkD f t p b)=⟨4,20,n,at0 (mkD f t p b) 9⟩:=by
   unfold pkH;rw[if_pos h1,a0,if_pos (by decide),hh]
  refine⟨?_,by rw[hsz];omega⟩;unfold dgE;rw[if_neg (by simpa using h1),h2,hsz];dsimp only;rw[if_neg (by omega),if_neg (by omega),if_neg];rintro⟨_,hd⟩;apply hd
  have hX:bl ((mkD f t p b).extract 0 (20:Int).toNat)=[69,0,UInt8.ofNat (n/256),UInt8.ofNat (n%256),0,0,0,0,64,UInt8.ofNat p.toNat,UInt8.ofNat (C/256),UInt8.ofNat (C%256),f0,f1,f2,f3,t0,t1,t2,t3]:=by
   rw[ext_bl,hbl];rfl
  have hyc:dsum (strOfNums (mkN n p)++str [0,0]++f++t)=C:=hC;obtain⟨X,hXe⟩: ∃X,(mkD f t p b).extract 0 (20:Int).toNat=X:=⟨_,rfl⟩;obtain⟨Y,hYe⟩: ∃Y,strOfNums (mkN n p)++str [0,0]++f++t=Y:=⟨_,rfl⟩;rw[hXe]at hX ⊢;rw[hYe]at hy hyc;have x:=fun(i:Nat) (b:UInt8) (h:(bl X)[i]? =some b)=>at0_bl h;have y:=fun(i:Nat) (b:UInt8) (h:(bl Y)[i]? =some b)=>at0_bl h;refine dsum_mend (Y:=Y) (by rw[←bl_len,hX];rfl) (by rw[←bl_len,hy];rfl) (fun i hi h10 h11=>?_) ?_ ?_ ?_ ?_
  ·match i,hi,h10,h11 with
   |0,_,_,_=>rw[x 0 69 (by rw[hX];rfl),y 0 69 (by rw[hy];rfl)]
   |1,_,_,_=>rw[x 1 0 (by rw[hX];rfl),y 1 0 (by rw[hy];rfl)]
   |2,_,_,_=>rw[x 2 _ (by rw[hX];rfl),y 2 _ (by rw[hy];rfl)]
   |3,_,_,_=>rw[x 3 _ (by rw[hX];rfl),y 3 _ (by rw[hy];rfl)]
   |4,_,_,_=>rw[x 4 0 (by rw[hX];rfl),y 4 0 (by rw[hy];rfl)]
   |5,_,_,_=>rw[x 5 0 (by rw[hX];rfl),y 5 0 (by rw[hy];rfl)]
   |6,_,_,_=>rw[x 6 0 (by rw[hX];rfl),y 6 0 (by rw[hy];rfl)]
   |7,_,_,_=>rw[x 7 0 (by rw[hX];rfl),y 7 0 (by rw[hy];rfl)]
   |8,_,_,_=>rw[x 8 64 (by rw[hX];rfl),y 8 64 (by rw[hy];rfl)]
   |9,_,_,_=>rw[x 9 _ (by rw[hX];rfl),y 9 _ (by rw[hy];rfl)]
   |12,_,_,_=>rw[x 12 f0 (by rw[hX];rfl),y 12 f0 (by rw[hy];rfl)]
   |13,_,_,_=>rw[x 13 f1 (by rw[hX];rfl),y 13 f1 (by rw[hy];rfl)]
   |14,_,_,_=>rw[x 14 f2 (by rw[hX];rfl),y 14 f2 (by rw[hy];rfl)]
   |15,_,_,_=>rw[x 15 f3 (by rw[hX];rfl),y 15 f3 (by rw[hy];rfl)]
   |16,_,_,_=>rw[x 16 t0 (by rw[hX];rfl),y 16 t0 (by rw[hy];rfl)]
   |17,_,_,_=>rw[x 17 t1 (by rw[hX];rfl),y 17 t1 (by rw[hy];rfl)]
   |18,_,_,_=>rw[x 18 t2 (by rw[hX];rfl),y 18 t2 (by rw[hy];rfl)]
   |19,_,_,_=>rw[x 19 t3 (by rw[hX];rfl),y 19 t3 (by rw[hy];rfl)]
   |k+20,hk,_,_=>exact absurd hk (by omega)
  ·rw[hyc,x 10 (UInt8.ofNat (C/256)) (by rw[hX];rfl),o _ (by omega)]
  ·rw[hyc,x 11 (UInt8.ofNat (C%256)) (by rw[hX];rfl),o _ (by omega)]
  ·rw[y 10 0 (by rw[hy];rfl)];rfl
  ·rw[y 11 0 (by rw[hy];rfl)];rfl
end Go.Proofs.YtibjkhepedfpiaaGreatDoor.DgN
