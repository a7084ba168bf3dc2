import Derived.Test.YtibjkhepedfpiaaDoorSlPkE
import Derived.Test.YtibjkhepedfpiaaDoorSlPaK
namespace Go.Proofs.YtibjkhepedfpiaaDoor.PkY
open Go Go.RowKit Q Mem Rg Ap St BlS PaR PaK PkP PkE
structure PkOk (p:Pkt):Prop where
 pid:0≤p.pid∧p.pid<8192
 count:0≤p.count∧p.count<16
 body:p.body.size=184∨p.body.size=183
def pkBy (p:Pkt):List UInt8:=pkB p.pid.toNat p.start p.count.toNat (bl p.body)
def airL (L:List Pkt):List UInt8:=(L.map pkBy).flatten
theorem pkBy_len {p:Pkt} (h:PkOk p):(pkBy p).length=188:=pkB_len (by rw[bl_len];exact h.body)
theorem airL_len {L:List Pkt} (h: ∀p∈L,PkOk p):(airL L).length=188*L.length:=by
 induction L with
 |nil=>rfl
 |cons p t ih=>
  have h1:=pkBy_len (h p (by simp));have h2:=ih (fun x hx=>h x (by simp[hx]));show(pkBy p++airL t).length=_;rw[List.length_append,h1,h2,List.length_cons];omega
theorem airL_app (a b:List Pkt):airL (a++b)=airL a++airL b:=by simp[airL]
theorem airL_snoc {L:List Pkt} {k:Nat} {p:Pkt} (h:L[k]? =some p):airL (L.take (k+1))=airL (L.take k)++pkBy p:=by
 rw[List.take_add_one,h,airL_app];simp[airL]
def nilPk:Pkt:=⟨8191,false,0,ff 184⟩
theorem nil_ok:PkOk nilPk:=⟨by decide,by decide,Or.inl (by show(str _).size=184;rw[str_size,List.length_replicate])⟩
set_option maxRecDepth 100000
theorem enc_pk (p:Pkt) (w:World) (hW:Wid 0 w) (h:PkOk p):
 Calls Tryd.prog 36 #[.agg #[.int .i64 p.pid,.bool p.start,.int .i64 p.count,.bool false,.string p.body]] w fun e w'=>e= .returned (.tuple #[.string (str (pkBy p)),.int .i64 0])∧Below w.heap.size w w':=by
 obtain⟨h1,h2,h3⟩:=h;have k:=encode_any p.pid.toNat p.count.toNat p.start p.body w hW (by omega) (by omega) h3;rw[show((p.pid.toNat:Nat):Int)=p.pid by omega,show((p.count.toNat:Nat):Int)=p.count by omega]at k;exact k
theorem empty_any (w:World) (hW:Wid 0 w):Calls Tryd.prog 22 #[] w fun e w'=>e= .returned (.string (str (pkBy nilPk)))∧Below w.heap.size w w':=by
 have k1: ∀V,Calls Tryd.prog 37 #[.string ⟨#[255]⟩,.int .i64 184] V fun e w'=>e= .returned (.string (ff 184))∧Below V.heap.size V w':=fun V=>ff_any 184 V (by decide);have HW:=Lib.hid hW;have HE:=Lib.hid (fun V h=>enc_pk nilPk V h nil_ok);obtain⟨X,hX⟩: ∃X,str (pkBy nilPk)=X:=⟨_,rfl⟩;rw[hX]at HE ⊢;unfold nilPk at HE;dsimp only at HE;obtain⟨F,hF⟩: ∃F,ff 184=F:=⟨_,rfl⟩;rw[hF]at k1 HE;clear hX hF hW
 go_enter Tryd.func22,Tryd.ntmps22
 go_wp2_with fail
 (with_reducible refine(k1 _).mono ?_);rintro e1 W1 ⟨rfl,hb1⟩
 go_wp2_with fail
 (with_reducible refine(HE.out _ (HW.out.be hb1)).mono ?_);rintro e1 W2 ⟨rfl,hb2⟩
 go_wp2_with fail
 go_ret;exact⟨rfl,hb1.trans (hb2.mono hb1.size)⟩
set_option maxHeartbeats 1600000 in
theorem bytes_any (a:Option Addr) (n c:Nat) (L:List Pkt) (w:World) (hW:Wid 0 w) (hn:L.length=n) (hl:n≤100000000) (hL:Seq enPk 5 w a L) (hok: ∀p∈L,PkOk p):
 Calls Tryd.prog 24 #[.slice a n c] w fun e w'=>e= .returned (.tuple #[.string (str (airL L)),.int .i64 0])∧Below w.heap.size w w':=by
 have HW:=Lib.hid hW;have HL:=Lib.hid hL;have HN:=Lib.hid hn;have HOK:=Lib.hid hok;have HI:=Lib.hid (Lib.fresh_isBuilder 61 5 w);clear hW hL hn hok
 go_enter Tryd.func24,Tryd.ntmps24
 go_wp2_with fail
 go_loopw [11] (fun i wr=> ∃q:Nat,q≤n∧i= .int .i64 q∧IsB w.heap.size w.heap.size (Lib.byteCells (airL (L.take q))) wr∧Below w.heap.size w wr∧w.heap.size<wr.heap.size) (fun i _=>n-(intOf i).toNat)
 case atStart=>exact⟨0,by omega,rfl,by simpa [airL,Lib.byteCells]using HI.out,(Below.refl _ _).alloc (Nat.le_refl _) _,by simp⟩
 case round=>
  clear HI;obtain⟨q,hq,rfl,hB,hbe,hlt⟩:=hrel;by_cases hqn:q<n
  ·have t0:decide (q<n)=true:=by simpa using hqn
   obtain⟨p,hp⟩: ∃s,L[q]? =some s:=⟨_,List.getElem?_eq_getElem (by rw[HN.out];exact hqn)⟩;obtain⟨b0,o0,ea,hlt2,hc⟩:=(HL.out.below (Nat.le_refl _) hbe) q p hp;have hpo:=HOK.out p (List.mem_of_getElem? hp)
   have hle:(airL (L.take q)).length=188*q:=by
    rw[airL_len (fun x hx=>HOK.out x (List.mem_of_mem_take hx)),List.length_take,HN.out,Nat.min_eq_left hq]
   have HSN:=Lib.hid (airL_snoc hp);have HPL:=Lib.hid (pkBy_len hpo);subst ea;have k0:(0:Int)≤(q:Int):=Int.natCast_nonneg _;have k1:(q:Int)<(n:Int):=by omega
   have c0:=hc 0 _ rfl;have c1:=hc 1 _ rfl;have c2:=hc 2 _ rfl;have c3:=hc 3 _ rfl;have c4:=hc 4 _ rfl;rw[off_eq]at c0 c1 c2 c3 c4;rw[Nat.add_zero]at c0;have ke:=enc_pk p (wr.alloc (.cells #[.int .i64 p.pid,.bool p.start,.int .i64 p.count,.bool false,.string p.body] 92)) ((HW.out.be hbe).be ((Below.refl _ _).alloc (Nat.le_refl _) _)) hpo;obtain⟨X,hX⟩: ∃X,pkBy p=X:=⟨_,rfl⟩;rw[hX]at HSN HPL ke;have hb1:Below w.heap.size w (wr.alloc (.cells #[.int .i64 p.pid,.bool p.start,.int .i64 p.count,.bool false,.string p.body] 92)):=hbe.alloc hbe.size _;have HB:=Lib.hid (isb_below hB ((Below.refl _ _).alloc (Nat.le_refl _) (.cells #[.int .i64 p.pid,.bool p.start,.int .i64 p.count,.bool false,.string p.body] 92)));obtain⟨pid,st,co,bo⟩:=p;dsimp only at c0 c1 c2 c3 c4 ke hb1 HB;have HLE:=Lib.hid hle;clear hc hp hpo hX hB hle
   go_wp2_with fail
   (with_reducible refine(ke).mono ?_);rintro e1 W1 ⟨rfl,hb2⟩
   have hb3:=hb1.trans (hb2.mono hb1.size);have kw:=write_any w.heap.size w.heap.size _ (str X) W1 (isb_below HB.out hb2) (by rw[Lib.byteCells,List.length_map,HLE.out,str_size,HPL.out];omega) hb3.size;rw[str_cells,bl_str,cells_app,←HSN.out]at kw;have hlt3:w.heap.size<W1.heap.size:=by have:=hb2.size;simp at this;omega
   clear ke hb2 c0 c1 c2 c3 c4
   go_wp2_with fail
   (with_reducible refine(kw).mono ?_);rintro e1 W2 ⟨rfl,hB2,hb4⟩
   have hb5:=hb3.trans hb4;have hlt4:=Nat.lt_of_lt_of_le hlt3 hb4.size;clear kw hb4
   go_wp2_with fail
   go_roundw
   case rel=>exact⟨q+1,by omega,by go_num,hB2,hb5,hlt4⟩
   case measure=>simp[intOf];omega
  ·obtain rfl:q=n:=by omega
   have t0:decide (q<q)=false:=by simp
   rw[show L.take q=L by rw[←HN.out,List.take_length]]at hB;have ks:=str_any w.heap.size w.heap.size (airL L) wr hB (by omega);have hz:=hbe.size;clear hB
   go_wp2_with fail
   (with_reducible refine(ks).mono ?_);rintro e1 W1 ⟨rfl,hb1⟩
   have hb2:=hbe.trans hb1
   go_wp2_with fail
   go_ret2
   exact⟨rfl,hb2⟩
end Go.Proofs.YtibjkhepedfpiaaDoor.PkY
