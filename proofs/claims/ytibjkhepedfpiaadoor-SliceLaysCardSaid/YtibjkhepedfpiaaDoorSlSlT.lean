import Derived.Test.YtibjkhepedfpiaaDoorSlSlS
namespace Go.Proofs.YtibjkhepedfpiaaDoor.SlT
open Go Go.RowKit Q Mem Rg Ap ApG St CrB CrP CrC BiH SeG SeP PaA PaK PaP SlM SlP SlR SlA SlB SlS
def exP:Pc:=⟨2,66,0,false,ByteArray.empty⟩
theorem ex_bytes:exP.bytes=str (66::176::11::([0,1,193,0,0]++bodyL 0 2++four (sumL (tabL 66 2++bodyL 0 2)))):=by
 unfold Pc.bytes exP;rw[if_pos (show ByteArray.empty.size=0 from rfl)];rw[show(Pc.len ⟨2,66,0,false,ByteArray.empty⟩)=2 from rfl];simp only[Bool.false_eq_true,if_false];rfl
theorem ex_ok:paE exP.bytes=0∧exP.bytes.size=14:=by
 have hs:exP.bytes.size=14:=by rw[ex_bytes,←bl_len,bl_str];simp[body_len,four]
 have h0:at0 exP.bytes 0=66:=by rw[ex_bytes];exact at0_str _ 0 66 rfl
 have h1:at0 exP.bytes 1=176:=by rw[ex_bytes];exact at0_str _ 1 176 rfl
 have h2:at0 exP.bytes 2=11:=by rw[ex_bytes];exact at0_str _ 2 11 rfl
 have hE:needE exP.bytes=0:=by
  unfold needE;rw[if_neg (by omega),if_neg];unfold nBad nN;rw[h1,h2];decide
 refine⟨?_,hs⟩;unfold paE;rw[if_neg (by simpa using hE)];unfold needN nN;rw[if_pos hE,h0,h1,h2,hs];decide
theorem nP14:nP [14]=1:=Steps.eq ⟨by have:=pos_ge [14] 1;simp;omega,fun j hj=>by
 obtain rfl:j=0:=by omega
 simp[pos]⟩
theorem ex_many:manyE [exP.bytes]=0∧manyN [exP.bytes]=1:=by
 refine⟨by rw[one_E];exact ex_ok.1,?_⟩;rw[one_N,if_pos ex_ok.1,ex_ok.2,nP14]
theorem ex_plan (x:ByteArray) (h:manyE [x]=0∧manyN [x]=1):planR 9 [⟨17,5,[x]⟩,⟨18,0,[x]⟩]=0∧planL 0 [⟨17,5,[x]⟩,⟨18,0,[x]⟩]=[⟨17,5,[x]⟩,⟨18,6,[x]⟩]:=by
 constructor
 ·unfold planR planE planE planE
  dsimp only;rw[h.1,h.2];have h1:rightP 17 5:=by unfold rightP;omega
  have h2:rightP 18 0:=by unfold rightP;omega
  simp[h1,h2];omega
 ·unfold planL planL planL
  dsimp only;rw[h.2];rfl
set_option maxRecDepth 100000
set_option maxHeartbeats 1600000 in
theorem awake_any (w:World):Calls Tryd.prog 6 #[] w fun e w'=>e= .returned (.bool true)∧Below w.heap.size w w':=by
 have km: ∀V,Calls Tryd.prog 15 #[.agg #[.int .i64 2,.int .u8 66,.int .u8 0,.bool false,.string ⟨#[]⟩]] V fun e w'=>e= .returned (.string exP.bytes)∧Below V.heap.size V w':=fun V=>made_any exP V (by decide) (by decide);obtain⟨x,hx⟩: ∃x,exP.bytes=x:=⟨_,rfl⟩;have hmn:=ex_many;have hsz:=ex_ok.2;rw[hx]at km hmn hsz;have hP:=ex_plan x hmn;clear hx hmn
 go_enter Tryd.func6,Tryd.ntmps6
 go_wp2_with fail
 (with_reducible refine(km _).mono ?_);rintro e1 W1 ⟨rfl,hb1⟩
 clear km
 go_wp2_with fail
 have hb2:Below w.heap.size w (W1.alloc (.cells #[.string x] 9)):=hb1.alloc hb1.size _;have hbk:=Blk.new W1 9 #[.string x];have hsq:Seq enS 1 (W1.alloc (.cells #[.string x] 9)) (some ⟨W1.heap.size,0,none⟩) [x]:=seq_blk enS_len hbk rfl;obtain⟨W2,hW2⟩: ∃W2,W1.alloc (.cells #[.string x] 9)=W2:=⟨_,rfl⟩;rw[hW2]at hb2 hsq ⊢;have hb3:=hb2.alloc hb2.size (.cells #[.int .i64 17,.int .i64 5,.slice (some ⟨W1.heap.size,0,none⟩) 1 1,.int .i64 18,.int .i64 0,.slice (some ⟨W1.heap.size,0,none⟩) 1 1] 55);have hbk3:=Blk.new W2 55 #[.int .i64 17,.int .i64 5,.slice (some ⟨W1.heap.size,0,none⟩) 1 1,.int .i64 18,.int .i64 0,.slice (some ⟨W1.heap.size,0,none⟩) 1 1];have hsq3:=hsq.below (Nat.le_refl _) ((Below.refl W2.heap.size W2).alloc (Nat.le_refl _) (.cells #[.int .i64 17,.int .i64 5,.slice (some ⟨W1.heap.size,0,none⟩) 1 1,.int .i64 18,.int .i64 0,.slice (some ⟨W1.heap.size,0,none⟩) 1 1] 55))
 have kp:=plan_any 9 (some ⟨W2.heap.size,0,none⟩) 2 2 [⟨⟨17,5,[x]⟩,some ⟨W1.heap.size,0,none⟩,1⟩,⟨⟨18,0,[x]⟩,some ⟨W1.heap.size,0,none⟩,1⟩] _ rfl (by decide) (seq_blk enBu_len hbk3 rfl)
  (by intro y hy;simp at hy;rcases hy with rfl|rfl<;>exact⟨hsq3,Nat.le_refl _⟩) (by intro y hy;simp at hy;rcases hy with rfl|rfl<;>exact⟨by simp,by intro s hs;simp at hs;subst hs;omega⟩)
 rw[show([⟨⟨17,5,[x]⟩,some ⟨W1.heap.size,0,none⟩,1⟩,⟨⟨18,0,[x]⟩,some ⟨W1.heap.size,0,none⟩,1⟩]:List Bu).map Bu.b=[⟨17,5,[x]⟩,⟨18,0,[x]⟩]from rfl,hP.1,hP.2]at kp;rw[show W2.heap.size=W1.heap.size+1 by rw[←hW2];simp]at kp;clear hb1 hb2 hsq hsq3 hbk hbk3 hP
 go_wp2_with fail
 (with_reducible refine(kp).mono ?_);rintro e1 W3 ⟨hb4,v,E,rfl,rfl,_,hD⟩
 obtain⟨D,hD1,hown,hD2⟩:=hD rfl;have hb5:=hb3.trans (hb4.mono hb3.size);obtain⟨av,cv,rfl,_⟩:=own_cap hown;have hlen:D.length=2:=by have:=congrArg List.length hD1;simpa using this
 have hseq:=own_seq (en:=enBu) enBu_len hown hlen
 match D,hlen with
 |[d0,d1],_=>
  simp only[List.map_cons,List.map_nil,List.cons.injEq,and_true]at hD1;obtain⟨bo,oo,rfl,_,hc0⟩:=hseq 0 d0 rfl;obtain⟨bo',oo',ee,_,hc1⟩:=hseq 1 d1 rfl
  cases ee
  have c0:=hc0 1 _ rfl;have c1:=hc1 1 _ rfl;rw[hD1.1]at c0;rw[hD1.2]at c1;rw[off_eq]at c0 c1;dsimp only at c0 c1;clear hc0 hc1 hseq hown hD2 hD1 hb4 hb3
  go_wp2_with fail
  go_ret;exact⟨rfl,hb5⟩
end Go.Proofs.YtibjkhepedfpiaaDoor.SlT
